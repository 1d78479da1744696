/-
  DERIVED. GIVEN WITH THE SEED: THE CARDS: each row of YtoaclbilkoeghaaDoorRows.lean that lists a variable, with what it lists TIED to the program's text (the seventh form; the later family's looks); each row that meets fmt, with fmt's text TOLD by the authors' own Lean function (tested against real Go, not proved from fmt's source: count such statements apart). THE CARD IS WHAT COUNTS. Prove the row's statement (the work); the ties are given (YtoaclbilkoeghaaDoorTie.lean); close each card by the builder's one call (the guide's Derived/Test/ToyasCard.lean, 'card_holds'). Laid BY PROGRAM, IN A SANDBOX (cutbox-door.mjs). By AI agents, Wed Nov 11 2026. No macro, syntax, notation, axiom, sorry.
-/
import Derived.Test.YtoaclbilkoeghaaDoorRows
import GoSem.ClaimSeven
namespace Go.Proofs.YtoaclbilkoeghaaDoor
namespace Rows

/-- THE TIED CARD OF 'vestrylaw15.PlanSpans'. -/
def planSpansCard : Claim7 := { stood := { row := planSpansRow, standIns := [], harness := (true, "40b2dcd5aa4eb4dd6ea1ce38092f0392e33d8bff54a3e186cdee0614f6b2d097"), looks := false }, kinds := [], alts := [], laidByText := true, laidKinds := [.data, .pinned], laidTests := true, laidLooks := .later }
def PlanSpansCardSaid : Prop := Claim7.holds Tryd.pinned (.plain (OpenSpec.ofChange planSpansSpec)) planSpansCard

/-- THE TIED CARD OF 'vestrylaw15.PlanMeets'. -/
def planMeetsCard : Claim7 := { stood := { row := planMeetsRow, standIns := [], harness := (true, "40b2dcd5aa4eb4dd6ea1ce38092f0392e33d8bff54a3e186cdee0614f6b2d097"), looks := false }, kinds := [], alts := [], laidByText := true, laidKinds := [.data, .pinned], laidTests := true, laidLooks := .later }
def PlanMeetsCardSaid : Prop := Claim7.holds Tryd.pinned (.plain (OpenSpec.ofChange planMeetsSpec)) planMeetsCard

/-- THE TIED CARD OF 'vestrylaw15.PlanBoth'. -/
def planBothCard : Claim7 := { stood := { row := planBothRow, standIns := [], harness := (true, "40b2dcd5aa4eb4dd6ea1ce38092f0392e33d8bff54a3e186cdee0614f6b2d097"), looks := false }, kinds := [], alts := [], laidByText := true, laidKinds := [.data, .pinned], laidTests := true, laidLooks := .later }
def PlanBothCardSaid : Prop := Claim7.holds Tryd.pinned (.plain (OpenSpec.ofChange planBothSpec)) planBothCard

/-- THE TIED CARD OF 'vestrylaw15.PlanPoints'. -/
def planPointsCard : Claim7 := { stood := { row := planPointsRow, standIns := [], harness := (true, "40b2dcd5aa4eb4dd6ea1ce38092f0392e33d8bff54a3e186cdee0614f6b2d097"), looks := false }, kinds := [], alts := [], laidByText := true, laidKinds := [.data, .pinned], laidTests := true, laidLooks := .later }
def PlanPointsCardSaid : Prop := Claim7.holds Tryd.pinned (.plain (OpenSpec.ofChange planPointsSpec)) planPointsCard

/-- THE TIED CARD OF 'vestrylaw15.PlanMisses'. -/
def planMissesCard : Claim7 := { stood := { row := planMissesRow, standIns := [], harness := (true, "40b2dcd5aa4eb4dd6ea1ce38092f0392e33d8bff54a3e186cdee0614f6b2d097"), looks := false }, kinds := [], alts := [], laidByText := true, laidKinds := [.data, .pinned], laidTests := true, laidLooks := .later }
def PlanMissesCardSaid : Prop := Claim7.holds Tryd.pinned (.plain (OpenSpec.ofChange planMissesSpec)) planMissesCard

/-- THE SECOND FORM's CARD OF 'vestrylaw15.PlanSpans'. -/
def planSpansUptoCard : Claim7 := { stood := { row := planSpansUptoRow, standIns := [], harness := (true, "40b2dcd5aa4eb4dd6ea1ce38092f0392e33d8bff54a3e186cdee0614f6b2d097"), looks := false }, kinds := [], alts := [], laidByText := true, laidKinds := [.data, .pinned], laidTests := true, laidLooks := .later }
def PlanSpansUptoCardSaid : Prop := Claim7.holds Tryd.pinned (.plain (OpenSpec.upto planSpansSpec)) planSpansUptoCard

/-- THE SECOND FORM's CARD OF 'vestrylaw15.PlanMeets'. -/
def planMeetsUptoCard : Claim7 := { stood := { row := planMeetsUptoRow, standIns := [], harness := (true, "40b2dcd5aa4eb4dd6ea1ce38092f0392e33d8bff54a3e186cdee0614f6b2d097"), looks := false }, kinds := [], alts := [], laidByText := true, laidKinds := [.data, .pinned], laidTests := true, laidLooks := .later }
def PlanMeetsUptoCardSaid : Prop := Claim7.holds Tryd.pinned (.plain (OpenSpec.upto planMeetsSpec)) planMeetsUptoCard

/-- THE SECOND FORM's CARD OF 'vestrylaw15.PlanBoth'. -/
def planBothUptoCard : Claim7 := { stood := { row := planBothUptoRow, standIns := [], harness := (true, "40b2dcd5aa4eb4dd6ea1ce38092f0392e33d8bff54a3e186cdee0614f6b2d097"), looks := false }, kinds := [], alts := [], laidByText := true, laidKinds := [.data, .pinned], laidTests := true, laidLooks := .later }
def PlanBothUptoCardSaid : Prop := Claim7.holds Tryd.pinned (.plain (OpenSpec.upto planBothSpec)) planBothUptoCard

/-- THE SECOND FORM's CARD OF 'vestrylaw15.PlanPoints'. -/
def planPointsUptoCard : Claim7 := { stood := { row := planPointsUptoRow, standIns := [], harness := (true, "40b2dcd5aa4eb4dd6ea1ce38092f0392e33d8bff54a3e186cdee0614f6b2d097"), looks := false }, kinds := [], alts := [], laidByText := true, laidKinds := [.data, .pinned], laidTests := true, laidLooks := .later }
def PlanPointsUptoCardSaid : Prop := Claim7.holds Tryd.pinned (.plain (OpenSpec.upto planPointsSpec)) planPointsUptoCard

/-- THE SECOND FORM's CARD OF 'vestrylaw15.PlanMisses'. -/
def planMissesUptoCard : Claim7 := { stood := { row := planMissesUptoRow, standIns := [], harness := (true, "40b2dcd5aa4eb4dd6ea1ce38092f0392e33d8bff54a3e186cdee0614f6b2d097"), looks := false }, kinds := [], alts := [], laidByText := true, laidKinds := [.data, .pinned], laidTests := true, laidLooks := .later }
def PlanMissesUptoCardSaid : Prop := Claim7.holds Tryd.pinned (.plain (OpenSpec.upto planMissesSpec)) planMissesUptoCard
end Rows
end Go.Proofs.YtoaclbilkoeghaaDoor
