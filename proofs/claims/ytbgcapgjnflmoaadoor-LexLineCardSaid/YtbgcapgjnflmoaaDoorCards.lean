/-
  DERIVED. GIVEN WITH THE SEED: THE CARDS: each row of YtbgcapgjnflmoaaDoorRows.lean that lists a variable, with what it lists TIED to the program's text (the seventh form; the later family's looks); each row that meets fmt, with fmt's text TOLD by the authors' own Lean function (tested against real Go, not proved from fmt's source: count such statements apart). THE CARD IS WHAT COUNTS. Prove the row's statement (the work); the ties are given (YtbgcapgjnflmoaaDoorTie.lean); close each card by the builder's one call (the guide's Derived/Test/ToyasCard.lean, 'card_holds'). Laid BY PROGRAM, IN A SANDBOX (cutbox-door.mjs). By AI agents, Wed Nov 11 2026. No macro, syntax, notation, axiom, sorry.
-/
import Derived.Test.YtbgcapgjnflmoaaDoorRows
import GoSem.ClaimSeven
namespace Go.Proofs.YtbgcapgjnflmoaaDoor
namespace Rows

/-- THE TIED CARD OF 'postbaglaw3.LexScans'. -/
def lexScansCard : Claim7 := { stood := { row := lexScansRow, standIns := [], harness := (true, "7a9e785af65768273721cf63eb96c5b07471d0fce45aaa7bd2d35619426acfd5"), looks := false }, kinds := [], alts := [], laidByText := true, laidKinds := [.data, .data, .data], laidTests := true, laidLooks := .later }
def LexScansCardSaid : Prop := Claim7.holds Tryd.pinned (.plain (OpenSpec.ofChange lexScansSpec)) lexScansCard

/-- THE TIED CARD OF 'postbaglaw3.LexLine'. -/
def lexLineCard : Claim7 := { stood := { row := lexLineRow, standIns := [], harness := (true, "7a9e785af65768273721cf63eb96c5b07471d0fce45aaa7bd2d35619426acfd5"), looks := false }, kinds := [], alts := [], laidByText := true, laidKinds := [.data, .data, .data], laidTests := true, laidLooks := .later }
def LexLineCardSaid : Prop := Claim7.holds Tryd.pinned (.plain (OpenSpec.ofChange lexLineSpec)) lexLineCard

/-- THE TIED CARD OF 'postbaglaw3.LexAnnounces'. -/
def lexAnnouncesCard : Claim7 := { stood := { row := lexAnnouncesRow, standIns := [], harness := (true, "7a9e785af65768273721cf63eb96c5b07471d0fce45aaa7bd2d35619426acfd5"), looks := false }, kinds := [], alts := [], laidByText := true, laidKinds := [.data, .data, .data], laidTests := true, laidLooks := .later }
def LexAnnouncesCardSaid : Prop := Claim7.holds Tryd.pinned (.plain (OpenSpec.ofChange lexAnnouncesSpec)) lexAnnouncesCard

/-- THE TIED CARD OF 'postbaglaw3.LexKnowsLiterals'. -/
def lexKnowsLiteralsCard : Claim7 := { stood := { row := lexKnowsLiteralsRow, standIns := [], harness := (true, "7a9e785af65768273721cf63eb96c5b07471d0fce45aaa7bd2d35619426acfd5"), looks := false }, kinds := [], alts := [], laidByText := true, laidKinds := [.data, .data, .data], laidTests := true, laidLooks := .later }
def LexKnowsLiteralsCardSaid : Prop := Claim7.holds Tryd.pinned (.plain (OpenSpec.ofChange lexKnowsLiteralsSpec)) lexKnowsLiteralsCard

/-- THE TIED CARD OF 'postbaglaw3.LexOneWord'. -/
def lexOneWordCard : Claim7 := { stood := { row := lexOneWordRow, standIns := [], harness := (true, "7a9e785af65768273721cf63eb96c5b07471d0fce45aaa7bd2d35619426acfd5"), looks := false }, kinds := [], alts := [], laidByText := true, laidKinds := [.data, .data, .data], laidTests := true, laidLooks := .later }
def LexOneWordCardSaid : Prop := Claim7.holds Tryd.pinned (.plain (OpenSpec.ofChange lexOneWordSpec)) lexOneWordCard

/-- THE SECOND FORM's CARD OF 'postbaglaw3.LexScans'. -/
def lexScansUptoCard : Claim7 := { stood := { row := lexScansUptoRow, standIns := [], harness := (true, "7a9e785af65768273721cf63eb96c5b07471d0fce45aaa7bd2d35619426acfd5"), looks := false }, kinds := [], alts := [], laidByText := true, laidKinds := [.data, .data, .data], laidTests := true, laidLooks := .later }
def LexScansUptoCardSaid : Prop := Claim7.holds Tryd.pinned (.plain (OpenSpec.upto lexScansSpec)) lexScansUptoCard

/-- THE SECOND FORM's CARD OF 'postbaglaw3.LexLine'. -/
def lexLineUptoCard : Claim7 := { stood := { row := lexLineUptoRow, standIns := [], harness := (true, "7a9e785af65768273721cf63eb96c5b07471d0fce45aaa7bd2d35619426acfd5"), looks := false }, kinds := [], alts := [], laidByText := true, laidKinds := [.data, .data, .data], laidTests := true, laidLooks := .later }
def LexLineUptoCardSaid : Prop := Claim7.holds Tryd.pinned (.plain (OpenSpec.upto lexLineSpec)) lexLineUptoCard

/-- THE SECOND FORM's CARD OF 'postbaglaw3.LexAnnounces'. -/
def lexAnnouncesUptoCard : Claim7 := { stood := { row := lexAnnouncesUptoRow, standIns := [], harness := (true, "7a9e785af65768273721cf63eb96c5b07471d0fce45aaa7bd2d35619426acfd5"), looks := false }, kinds := [], alts := [], laidByText := true, laidKinds := [.data, .data, .data], laidTests := true, laidLooks := .later }
def LexAnnouncesUptoCardSaid : Prop := Claim7.holds Tryd.pinned (.plain (OpenSpec.upto lexAnnouncesSpec)) lexAnnouncesUptoCard

/-- THE SECOND FORM's CARD OF 'postbaglaw3.LexKnowsLiterals'. -/
def lexKnowsLiteralsUptoCard : Claim7 := { stood := { row := lexKnowsLiteralsUptoRow, standIns := [], harness := (true, "7a9e785af65768273721cf63eb96c5b07471d0fce45aaa7bd2d35619426acfd5"), looks := false }, kinds := [], alts := [], laidByText := true, laidKinds := [.data, .data, .data], laidTests := true, laidLooks := .later }
def LexKnowsLiteralsUptoCardSaid : Prop := Claim7.holds Tryd.pinned (.plain (OpenSpec.upto lexKnowsLiteralsSpec)) lexKnowsLiteralsUptoCard

/-- THE SECOND FORM's CARD OF 'postbaglaw3.LexOneWord'. -/
def lexOneWordUptoCard : Claim7 := { stood := { row := lexOneWordUptoRow, standIns := [], harness := (true, "7a9e785af65768273721cf63eb96c5b07471d0fce45aaa7bd2d35619426acfd5"), looks := false }, kinds := [], alts := [], laidByText := true, laidKinds := [.data, .data, .data], laidTests := true, laidLooks := .later }
def LexOneWordUptoCardSaid : Prop := Claim7.holds Tryd.pinned (.plain (OpenSpec.upto lexOneWordSpec)) lexOneWordUptoCard
end Rows
end Go.Proofs.YtbgcapgjnflmoaaDoor
