/-
  DERIVED. GIVEN WITH THE SEED: THE CARDS: each row of YthkmnomnfmjffaaDoorRows.lean that lists a variable, with what it lists TIED to the program's text (the seventh form; the later family's looks); each row that meets fmt, with fmt's text TOLD by the authors' own Lean function (tested against real Go, not proved from fmt's source: count such statements apart). THE CARD IS WHAT COUNTS. Prove the row's statement (the work); the ties are given (YthkmnomnfmjffaaDoorTie.lean); close each card by the builder's one call (the guide's Derived/Test/ToyasCard.lean, 'card_holds'). Laid BY PROGRAM, IN A SANDBOX (cutbox-door.mjs). By AI agents, Wed Nov 11 2026. No macro, syntax, notation, axiom, sorry.
-/
import Derived.Test.YthkmnomnfmjffaaDoorRows
import GoSem.ClaimSeven
namespace Go.Proofs.YthkmnomnfmjffaaDoor
namespace Rows

/-- THE TIED CARD OF 'vestrylaw01.PlainOrders'. -/
def plainOrdersCard : Claim7 := { stood := { row := plainOrdersRow, standIns := [], harness := (true, "15033aca952a157c3c7098bdaf5eb2e45f48bd271c0c26c0e665b46e00b4c9a1"), looks := false }, kinds := [], alts := [], laidByText := true, laidKinds := [.data, .pinned], laidTests := true, laidLooks := .later }
def PlainOrdersCardSaid : Prop := Claim7.holds Tryd.pinned (.plain (OpenSpec.ofChange plainOrdersSpec)) plainOrdersCard

/-- THE TIED CARD OF 'vestrylaw01.PlainTexts'. -/
def plainTextsCard : Claim7 := { stood := { row := plainTextsRow, standIns := [], harness := (true, "15033aca952a157c3c7098bdaf5eb2e45f48bd271c0c26c0e665b46e00b4c9a1"), looks := false }, kinds := [], alts := [], laidByText := true, laidKinds := [.data, .pinned], laidTests := true, laidLooks := .later }
def PlainTextsCardSaid : Prop := Claim7.holds Tryd.pinned (.plain (OpenSpec.ofChange plainTextsSpec)) plainTextsCard

/-- THE TIED CARD OF 'vestrylaw01.PlainBack'. -/
def plainBackCard : Claim7 := { stood := { row := plainBackRow, standIns := [], harness := (true, "15033aca952a157c3c7098bdaf5eb2e45f48bd271c0c26c0e665b46e00b4c9a1"), looks := false }, kinds := [], alts := [], laidByText := true, laidKinds := [.data, .pinned], laidTests := true, laidLooks := .later }
def PlainBackCardSaid : Prop := Claim7.holds Tryd.pinned (.plain (OpenSpec.ofChange plainBackSpec)) plainBackCard

/-- THE SECOND FORM's CARD OF 'vestrylaw01.PlainOrders'. -/
def plainOrdersUptoCard : Claim7 := { stood := { row := plainOrdersUptoRow, standIns := [], harness := (true, "15033aca952a157c3c7098bdaf5eb2e45f48bd271c0c26c0e665b46e00b4c9a1"), looks := false }, kinds := [], alts := [], laidByText := true, laidKinds := [.data, .pinned], laidTests := true, laidLooks := .later }
def PlainOrdersUptoCardSaid : Prop := Claim7.holds Tryd.pinned (.plain (OpenSpec.upto plainOrdersSpec)) plainOrdersUptoCard

/-- THE SECOND FORM's CARD OF 'vestrylaw01.PlainTexts'. -/
def plainTextsUptoCard : Claim7 := { stood := { row := plainTextsUptoRow, standIns := [], harness := (true, "15033aca952a157c3c7098bdaf5eb2e45f48bd271c0c26c0e665b46e00b4c9a1"), looks := false }, kinds := [], alts := [], laidByText := true, laidKinds := [.data, .pinned], laidTests := true, laidLooks := .later }
def PlainTextsUptoCardSaid : Prop := Claim7.holds Tryd.pinned (.plain (OpenSpec.upto plainTextsSpec)) plainTextsUptoCard

/-- THE SECOND FORM's CARD OF 'vestrylaw01.PlainBack'. -/
def plainBackUptoCard : Claim7 := { stood := { row := plainBackUptoRow, standIns := [], harness := (true, "15033aca952a157c3c7098bdaf5eb2e45f48bd271c0c26c0e665b46e00b4c9a1"), looks := false }, kinds := [], alts := [], laidByText := true, laidKinds := [.data, .pinned], laidTests := true, laidLooks := .later }
def PlainBackUptoCardSaid : Prop := Claim7.holds Tryd.pinned (.plain (OpenSpec.upto plainBackSpec)) plainBackUptoCard
end Rows
end Go.Proofs.YthkmnomnfmjffaaDoor
