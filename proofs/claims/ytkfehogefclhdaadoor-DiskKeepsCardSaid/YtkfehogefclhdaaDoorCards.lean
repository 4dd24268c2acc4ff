/-
  DERIVED. GIVEN WITH THE SEED: THE CARDS: each row of YtkfehogefclhdaaDoorRows.lean that lists a variable, with what it lists TIED to the program's text (the seventh form; the later family's looks); each row that meets fmt, with fmt's text TOLD by the authors' own Lean function (tested against real Go, not proved from fmt's source: count such statements apart). THE CARD IS WHAT COUNTS. Prove the row's statement (the work); the ties are given (YtkfehogefclhdaaDoorTie.lean); close each card by the builder's one call (the guide's Derived/Test/ToyasCard.lean, 'card_holds'). Laid BY PROGRAM, IN A SANDBOX (cutbox-door.mjs). By AI agents, Wed Nov 11 2026. No macro, syntax, notation, axiom, sorry.
-/
import Derived.Test.YtkfehogefclhdaaDoorRows
import GoSem.ClaimSeven
namespace Go.Proofs.YtkfehogefclhdaaDoor
namespace Rows

/-- THE TIED CARD OF 'postbaglaw9.DiskRenames'. -/
def diskRenamesCard : Claim7 := { stood := { row := diskRenamesRow, standIns := [], harness := (true, "9d126202e2414564e750d93b1dda8abc79694caa4ba5617ecde41484c92a29f2"), looks := true }, kinds := [], alts := [], laidByText := true, laidKinds := [.sentinel, .sentinel, .sentinel, .sentinel, .sentinel], laidTests := true, laidLooks := .later }
def DiskRenamesCardSaid : Prop := Claim7.holds Tryd.pinned (.plain (OpenSpec.ofChange diskRenamesSpec)) diskRenamesCard

/-- THE TIED CARD OF 'postbaglaw9.DiskCounts'. -/
def diskCountsCard : Claim7 := { stood := { row := diskCountsRow, standIns := [], harness := (true, "9d126202e2414564e750d93b1dda8abc79694caa4ba5617ecde41484c92a29f2"), looks := true }, kinds := [], alts := [], laidByText := true, laidKinds := [.sentinel, .sentinel, .sentinel, .sentinel, .sentinel], laidTests := true, laidLooks := .later }
def DiskCountsCardSaid : Prop := Claim7.holds Tryd.pinned (.plain (OpenSpec.ofChange diskCountsSpec)) diskCountsCard

/-- THE TIED CARD OF 'postbaglaw3.LexOrders'. -/
def lexOrdersCard : Claim7 := { stood := { row := lexOrdersRow, standIns := [], harness := (true, "9d126202e2414564e750d93b1dda8abc79694caa4ba5617ecde41484c92a29f2"), looks := true }, kinds := [], alts := [], laidByText := true, laidKinds := [.data, .data, .data], laidTests := true, laidLooks := .later }
def LexOrdersCardSaid : Prop := Claim7.holds Tryd.pinned (.plain (OpenSpec.ofChange lexOrdersSpec)) lexOrdersCard

/-- THE TIED CARD OF 'postbaglaw3.LexTexts'. -/
def lexTextsCard : Claim7 := { stood := { row := lexTextsRow, standIns := [], harness := (true, "9d126202e2414564e750d93b1dda8abc79694caa4ba5617ecde41484c92a29f2"), looks := true }, kinds := [], alts := [], laidByText := true, laidKinds := [.data, .data, .data], laidTests := true, laidLooks := .later }
def LexTextsCardSaid : Prop := Claim7.holds Tryd.pinned (.plain (OpenSpec.ofChange lexTextsSpec)) lexTextsCard

/-- THE TIED CARD OF 'postbaglaw9.DiskKeeps'. -/
def diskKeepsCard : Claim7 := { stood := { row := diskKeepsRow, standIns := [], harness := (true, "9d126202e2414564e750d93b1dda8abc79694caa4ba5617ecde41484c92a29f2"), looks := true }, kinds := [], alts := [], laidByText := true, laidKinds := [.sentinel, .sentinel, .sentinel, .sentinel, .sentinel], laidTests := true, laidLooks := .later }
def DiskKeepsCardSaid : Prop := Claim7.holds Tryd.pinned (.plain (OpenSpec.ofChange diskKeepsSpec)) diskKeepsCard

/-- THE TIED CARD OF 'postbaglaw9.DiskBounds'. -/
def diskBoundsCard : Claim7 := { stood := { row := diskBoundsRow, standIns := [], harness := (true, "9d126202e2414564e750d93b1dda8abc79694caa4ba5617ecde41484c92a29f2"), looks := true }, kinds := [], alts := [], laidByText := true, laidKinds := [.sentinel, .sentinel, .sentinel, .sentinel, .sentinel], laidTests := true, laidLooks := .later }
def DiskBoundsCardSaid : Prop := Claim7.holds Tryd.pinned (.plain (OpenSpec.ofChange diskBoundsSpec)) diskBoundsCard

/-- THE TIED CARD OF 'postbaglaw3.LexNumbers'. -/
def lexNumbersCard : Claim7 := { stood := { row := lexNumbersRow, standIns := [], harness := (true, "9d126202e2414564e750d93b1dda8abc79694caa4ba5617ecde41484c92a29f2"), looks := true }, kinds := [], alts := [], laidByText := true, laidKinds := [.data, .data, .data, .sentinel, .sentinel], laidTests := true, laidLooks := .later }
def LexNumbersCardSaid : Prop := Claim7.holds Tryd.pinned (.plain (OpenSpec.ofChange lexNumbersSpec)) lexNumbersCard

/-- THE SECOND FORM's CARD OF 'postbaglaw9.DiskRenames'. -/
def diskRenamesUptoCard : Claim7 := { stood := { row := diskRenamesUptoRow, standIns := [], harness := (true, "9d126202e2414564e750d93b1dda8abc79694caa4ba5617ecde41484c92a29f2"), looks := true }, kinds := [], alts := [], laidByText := true, laidKinds := [.sentinel, .sentinel, .sentinel, .sentinel, .sentinel], laidTests := true, laidLooks := .later }
def DiskRenamesUptoCardSaid : Prop := Claim7.holds Tryd.pinned (.plain (OpenSpec.upto diskRenamesSpec)) diskRenamesUptoCard

/-- THE SECOND FORM's CARD OF 'postbaglaw9.DiskCounts'. -/
def diskCountsUptoCard : Claim7 := { stood := { row := diskCountsUptoRow, standIns := [], harness := (true, "9d126202e2414564e750d93b1dda8abc79694caa4ba5617ecde41484c92a29f2"), looks := true }, kinds := [], alts := [], laidByText := true, laidKinds := [.sentinel, .sentinel, .sentinel, .sentinel, .sentinel], laidTests := true, laidLooks := .later }
def DiskCountsUptoCardSaid : Prop := Claim7.holds Tryd.pinned (.plain (OpenSpec.upto diskCountsSpec)) diskCountsUptoCard

/-- THE SECOND FORM's CARD OF 'postbaglaw3.LexOrders'. -/
def lexOrdersUptoCard : Claim7 := { stood := { row := lexOrdersUptoRow, standIns := [], harness := (true, "9d126202e2414564e750d93b1dda8abc79694caa4ba5617ecde41484c92a29f2"), looks := true }, kinds := [], alts := [], laidByText := true, laidKinds := [.data, .data, .data], laidTests := true, laidLooks := .later }
def LexOrdersUptoCardSaid : Prop := Claim7.holds Tryd.pinned (.plain (OpenSpec.upto lexOrdersSpec)) lexOrdersUptoCard

/-- THE SECOND FORM's CARD OF 'postbaglaw3.LexTexts'. -/
def lexTextsUptoCard : Claim7 := { stood := { row := lexTextsUptoRow, standIns := [], harness := (true, "9d126202e2414564e750d93b1dda8abc79694caa4ba5617ecde41484c92a29f2"), looks := true }, kinds := [], alts := [], laidByText := true, laidKinds := [.data, .data, .data], laidTests := true, laidLooks := .later }
def LexTextsUptoCardSaid : Prop := Claim7.holds Tryd.pinned (.plain (OpenSpec.upto lexTextsSpec)) lexTextsUptoCard

/-- THE SECOND FORM's CARD OF 'postbaglaw9.DiskKeeps'. -/
def diskKeepsUptoCard : Claim7 := { stood := { row := diskKeepsUptoRow, standIns := [], harness := (true, "9d126202e2414564e750d93b1dda8abc79694caa4ba5617ecde41484c92a29f2"), looks := true }, kinds := [], alts := [], laidByText := true, laidKinds := [.sentinel, .sentinel, .sentinel, .sentinel, .sentinel], laidTests := true, laidLooks := .later }
def DiskKeepsUptoCardSaid : Prop := Claim7.holds Tryd.pinned (.plain (OpenSpec.upto diskKeepsSpec)) diskKeepsUptoCard

/-- THE SECOND FORM's CARD OF 'postbaglaw9.DiskBounds'. -/
def diskBoundsUptoCard : Claim7 := { stood := { row := diskBoundsUptoRow, standIns := [], harness := (true, "9d126202e2414564e750d93b1dda8abc79694caa4ba5617ecde41484c92a29f2"), looks := true }, kinds := [], alts := [], laidByText := true, laidKinds := [.sentinel, .sentinel, .sentinel, .sentinel, .sentinel], laidTests := true, laidLooks := .later }
def DiskBoundsUptoCardSaid : Prop := Claim7.holds Tryd.pinned (.plain (OpenSpec.upto diskBoundsSpec)) diskBoundsUptoCard

/-- THE SECOND FORM's CARD OF 'postbaglaw3.LexNumbers'. -/
def lexNumbersUptoCard : Claim7 := { stood := { row := lexNumbersUptoRow, standIns := [], harness := (true, "9d126202e2414564e750d93b1dda8abc79694caa4ba5617ecde41484c92a29f2"), looks := true }, kinds := [], alts := [], laidByText := true, laidKinds := [.data, .data, .data, .sentinel, .sentinel], laidTests := true, laidLooks := .later }
def LexNumbersUptoCardSaid : Prop := Claim7.holds Tryd.pinned (.plain (OpenSpec.upto lexNumbersSpec)) lexNumbersUptoCard
end Rows
end Go.Proofs.YtkfehogefclhdaaDoor
