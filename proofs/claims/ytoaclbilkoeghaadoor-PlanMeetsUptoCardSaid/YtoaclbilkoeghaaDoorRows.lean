/-
  NARROWER THAN 'FOR EVERY INPUT', by the rows' own cells (each row's printed sentence says how): PlanSpans: loops, laid · PlanMeets: laid · PlanBoth: laid · PlanPoints: laid · PlanMisses: loops, laid.
  DERIVED. THE GIVEN ROWS OF THIS SEAT. 5 by the template 'for every input the law returns true; each argument reads behind the call as it read before'; 0 by the template 'total and deterministic' (their statements: YtoaclbilkoeghaaDoorTotals.lean).
  GIVEN WITH THE SEED: the statements are not yours to turn. If you find one false, say at which input.
  Laid BY PROGRAM, IN A SANDBOX (cutbox-rows.mjs): the forced cells as the released guide's own fill.sh prints them over the translation 3c47e73540c5122a… (all of the seat's roots in one cut). By AI agents, Wed Nov 11 2026. No macro, syntax, notation, axiom, sorry.
-/
import Derived.Test.YtoaclbilkoeghaaDoorChecked
import GoSem.PinnedTables
import GoSem.Claim
import GoSem.ClaimJoined
import GoSem.ClaimMapViews
import Derived.JoinedTies
import Derived.KernelRfl
namespace Go.Proofs.YtoaclbilkoeghaaDoor
/- THE CELL 'sum', in the pinned program and in every row, IS THE sha256 OF THE DUMP (.gsa) THAT YtoaclbilkoeghaaDoorProg.lean LOADS. Nothing in Lean hashes anything: it is a label: what it is worth is what the hold of that sum in a sandbox is worth. -/
noncomputable def Tryd.pinned : Pinned := { name := "ytoaclbilkoeghaadoor", sum := "3c47e73540c5122abbdcf263fed6509b3068837cde650028d99e2d73d0ab9fd8", checked := Tryd.checked }
namespace Rows
def none {H : Type} : Left H := { results := [], args := [] }

/- WHAT THE LISTED PACKAGE-LEVEL VARIABLES READ AS WHEN THE CALL BEGINS. Each datum BY PROGRAM (the guide's laid-datum.mjs) off the statement by which the dump's own 'gosem.cut.vars' lays the variable. In a bare row this is a premise. The card (YtoaclbilkoeghaaDoorCards.lean) ties it to the program's text. -/
def laid_unicode_utf8_acceptRanges {H : Type} : DataW H := .agg [.agg [.lit (.int .u8 128), .lit (.int .u8 191)], .agg [.lit (.int .u8 160), .lit (.int .u8 191)], .agg [.lit (.int .u8 128), .lit (.int .u8 159)], .agg [.lit (.int .u8 144), .lit (.int .u8 191)], .agg [.lit (.int .u8 128), .lit (.int .u8 143)], .agg [.lit (.int .u8 0), .lit (.int .u8 0)], .agg [.lit (.int .u8 0), .lit (.int .u8 0)], .agg [.lit (.int .u8 0), .lit (.int .u8 0)], .agg [.lit (.int .u8 0), .lit (.int .u8 0)], .agg [.lit (.int .u8 0), .lit (.int .u8 0)], .agg [.lit (.int .u8 0), .lit (.int .u8 0)], .agg [.lit (.int .u8 0), .lit (.int .u8 0)], .agg [.lit (.int .u8 0), .lit (.int .u8 0)], .agg [.lit (.int .u8 0), .lit (.int .u8 0)], .agg [.lit (.int .u8 0), .lit (.int .u8 0)], .agg [.lit (.int .u8 0), .lit (.int .u8 0)]]
/-- One of Go's own tables, pinned by name: the form's constant. -/
def laid_unicode_utf8_first : DataW Unit := Go.Pinned.utf8First

/-- 'vestrylaw15.PlanSpans': WHATEVER THE INPUT: true; the input reads as it did. -/
def planSpansSpec : ChangeSpec := { name := "planSpans", fn := fun _ => fun
  | [d1, d2] => { results := [.lit (.bool true)], args := [d1, d2] }
  | _ => none }
def planSpansRow : OpenClaim := { program := "ytoaclbilkoeghaadoor", sum := "3c47e73540c5122abbdcf263fed6509b3068837cde650028d99e2d73d0ab9fd8", func := "vestry/vestrylaw15.PlanSpans", spec := "planSpans", inPlace := ["internal/bytealg.Compare", "internal/bytealg.Count", "internal/bytealg.IndexByte", "internal/bytealg.Index"], unfollowed := true, recurses := true, named := ["internal/bytealg.MaxLen", "unicode/utf8.first", "unicode/utf8.acceptRanges"], loops := true, apart := false, laid := [("unicode/utf8.acceptRanges", laid_unicode_utf8_acceptRanges), ("unicode/utf8.first", laid_unicode_utf8_first)] }
def PlanSpansSaid : Prop := planSpansRow.holds Tryd.pinned (OpenSpec.ofChange planSpansSpec)

/-- ITS FALSE NEIGHBOUR: 'it returns false'. Refute it at one input. -/
def planSpansWrong : ChangeSpec := { name := "planSpans", fn := fun _ => fun
  | [d1, d2] => { results := [.lit (.bool false)], args := [d1, d2] }
  | _ => none }
def PlanSpansWrongFalsely : Prop := planSpansRow.holds Tryd.pinned (OpenSpec.ofChange planSpansWrong)

/-- 'vestrylaw15.PlanMeets': WHATEVER THE INPUT: true; the input reads as it did. -/
def planMeetsSpec : ChangeSpec := { name := "planMeets", fn := fun _ => fun
  | [d1, d2] => { results := [.lit (.bool true)], args := [d1, d2] }
  | _ => none }
def planMeetsRow : OpenClaim := { program := "ytoaclbilkoeghaadoor", sum := "3c47e73540c5122abbdcf263fed6509b3068837cde650028d99e2d73d0ab9fd8", func := "vestry/vestrylaw15.PlanMeets", spec := "planMeets", inPlace := ["internal/bytealg.Compare", "internal/bytealg.Count", "internal/bytealg.IndexByte", "internal/bytealg.Index"], unfollowed := true, recurses := true, named := ["internal/bytealg.MaxLen", "unicode/utf8.first", "unicode/utf8.acceptRanges"], apart := false, laid := [("unicode/utf8.acceptRanges", laid_unicode_utf8_acceptRanges), ("unicode/utf8.first", laid_unicode_utf8_first)] }
def PlanMeetsSaid : Prop := planMeetsRow.holds Tryd.pinned (OpenSpec.ofChange planMeetsSpec)

/-- ITS FALSE NEIGHBOUR: 'it returns false'. Refute it at one input. -/
def planMeetsWrong : ChangeSpec := { name := "planMeets", fn := fun _ => fun
  | [d1, d2] => { results := [.lit (.bool false)], args := [d1, d2] }
  | _ => none }
def PlanMeetsWrongFalsely : Prop := planMeetsRow.holds Tryd.pinned (OpenSpec.ofChange planMeetsWrong)

/-- 'vestrylaw15.PlanBoth': WHATEVER THE INPUT: true; the input reads as it did. -/
def planBothSpec : ChangeSpec := { name := "planBoth", fn := fun _ => fun
  | [d1, d2, d3] => { results := [.lit (.bool true)], args := [d1, d2, d3] }
  | _ => none }
def planBothRow : OpenClaim := { program := "ytoaclbilkoeghaadoor", sum := "3c47e73540c5122abbdcf263fed6509b3068837cde650028d99e2d73d0ab9fd8", func := "vestry/vestrylaw15.PlanBoth", spec := "planBoth", inPlace := ["internal/bytealg.Compare", "internal/bytealg.Count", "internal/bytealg.IndexByte", "internal/bytealg.Index"], unfollowed := true, recurses := true, named := ["internal/bytealg.MaxLen", "unicode/utf8.first", "unicode/utf8.acceptRanges"], apart := false, laid := [("unicode/utf8.acceptRanges", laid_unicode_utf8_acceptRanges), ("unicode/utf8.first", laid_unicode_utf8_first)] }
def PlanBothSaid : Prop := planBothRow.holds Tryd.pinned (OpenSpec.ofChange planBothSpec)

/-- ITS FALSE NEIGHBOUR: 'it returns false'. Refute it at one input. -/
def planBothWrong : ChangeSpec := { name := "planBoth", fn := fun _ => fun
  | [d1, d2, d3] => { results := [.lit (.bool false)], args := [d1, d2, d3] }
  | _ => none }
def PlanBothWrongFalsely : Prop := planBothRow.holds Tryd.pinned (OpenSpec.ofChange planBothWrong)

/-- 'vestrylaw15.PlanPoints': WHATEVER THE INPUT: true; the input reads as it did. -/
def planPointsSpec : ChangeSpec := { name := "planPoints", fn := fun _ => fun
  | [d1, d2, d3] => { results := [.lit (.bool true)], args := [d1, d2, d3] }
  | _ => none }
def planPointsRow : OpenClaim := { program := "ytoaclbilkoeghaadoor", sum := "3c47e73540c5122abbdcf263fed6509b3068837cde650028d99e2d73d0ab9fd8", func := "vestry/vestrylaw15.PlanPoints", spec := "planPoints", inPlace := ["internal/bytealg.Compare", "internal/bytealg.Count", "internal/bytealg.IndexByte", "internal/bytealg.Index", "internal/bytealg.abigen_runtime_cmpstring"], unfollowed := true, recurses := true, named := ["internal/bytealg.MaxLen", "unicode/utf8.first", "unicode/utf8.acceptRanges"], apart := false, laid := [("unicode/utf8.acceptRanges", laid_unicode_utf8_acceptRanges), ("unicode/utf8.first", laid_unicode_utf8_first)] }
def PlanPointsSaid : Prop := planPointsRow.holds Tryd.pinned (OpenSpec.ofChange planPointsSpec)

/-- ITS FALSE NEIGHBOUR: 'it returns false'. Refute it at one input. -/
def planPointsWrong : ChangeSpec := { name := "planPoints", fn := fun _ => fun
  | [d1, d2, d3] => { results := [.lit (.bool false)], args := [d1, d2, d3] }
  | _ => none }
def PlanPointsWrongFalsely : Prop := planPointsRow.holds Tryd.pinned (OpenSpec.ofChange planPointsWrong)

/-- 'vestrylaw15.PlanMisses': WHATEVER THE INPUT: true; the input reads as it did. -/
def planMissesSpec : ChangeSpec := { name := "planMisses", fn := fun _ => fun
  | [d1, d2, d3] => { results := [.lit (.bool true)], args := [d1, d2, d3] }
  | _ => none }
def planMissesRow : OpenClaim := { program := "ytoaclbilkoeghaadoor", sum := "3c47e73540c5122abbdcf263fed6509b3068837cde650028d99e2d73d0ab9fd8", func := "vestry/vestrylaw15.PlanMisses", spec := "planMisses", inPlace := ["internal/bytealg.Compare", "internal/bytealg.Count", "internal/bytealg.IndexByte", "internal/bytealg.Index", "internal/bytealg.abigen_runtime_cmpstring"], unfollowed := true, recurses := true, named := ["internal/bytealg.MaxLen", "unicode/utf8.first", "unicode/utf8.acceptRanges"], loops := true, apart := false, laid := [("unicode/utf8.acceptRanges", laid_unicode_utf8_acceptRanges), ("unicode/utf8.first", laid_unicode_utf8_first)] }
def PlanMissesSaid : Prop := planMissesRow.holds Tryd.pinned (OpenSpec.ofChange planMissesSpec)

/-- ITS FALSE NEIGHBOUR: 'it returns false'. Refute it at one input. -/
def planMissesWrong : ChangeSpec := { name := "planMisses", fn := fun _ => fun
  | [d1, d2, d3] => { results := [.lit (.bool false)], args := [d1, d2, d3] }
  | _ => none }
def PlanMissesWrongFalsely : Prop := planMissesRow.holds Tryd.pinned (OpenSpec.ofChange planMissesWrong)

/- THE SECOND FORM. 'bulk': how many values and letters a reading holds, each counted each time it is reached (what is shared counts as often as it is met; a slice's spare places count too). A statement '..UptoSaid' is the law's where the arguments, and the package variables that the reading takes, are together of bulk at most 1048576: NARROWER than '..Said'. Prove '..Said' where nothing that the law and all that it calls make is longer than what came in: it says more and counts as full. Else prove '..UptoSaid'. A law counts once. -/
mutual
def uptoBulk {H : Type} : DataW H → Nat
  | .lit (.string bytes) => bytes.length + 1
  | .lit _ => 1
  | .nil => 1
  | .ptr d => uptoBulk d + 1
  | .slice elems spare => uptoBulkAll elems + uptoBulkAll spare + 1
  | .agg parts => uptoBulkAll parts + 1
  | .iface _ d => uptoBulk d + 1
  | .map entries => uptoBulkEntries entries + 1
  | .held _ => 1
def uptoBulkAll {H : Type} : List (DataW H) → Nat
  | [] => 0
  | d :: r => uptoBulk d + uptoBulkAll r
def uptoBulkEntries {H : Type} : List (Lit × DataW H) → Nat
  | [] => 0
  | x :: r => uptoBulkEntry x + uptoBulkEntries r
def uptoBulkEntry {H : Type} : Lit × DataW H → Nat
  | (.string bytes, d) => bytes.length + uptoBulk d + 1
  | (_, d) => uptoBulk d + 1
 end
def uptoSmall : (H : Type) → List (DataW H) → Bool := fun _ ds => decide (uptoBulkAll ds ≤ 1048576)
def OpenSpec.upto (s : _root_.Go.ChangeSpec) : _root_.Go.OpenSpec := { _root_.Go.OpenSpec.ofChange s with cond := some uptoSmall }

/-- 'vestrylaw15.PlanSpans', WHERE WHAT IT READS IS OF BULK AT MOST 1048576: true; the input reads as it did. -/
def planSpansUptoRow : OpenClaim := { program := "ytoaclbilkoeghaadoor", sum := "3c47e73540c5122abbdcf263fed6509b3068837cde650028d99e2d73d0ab9fd8", func := "vestry/vestrylaw15.PlanSpans", spec := "planSpans", inPlace := ["internal/bytealg.Compare", "internal/bytealg.Count", "internal/bytealg.IndexByte", "internal/bytealg.Index"], unfollowed := true, recurses := true, named := ["internal/bytealg.MaxLen", "unicode/utf8.first", "unicode/utf8.acceptRanges"], loops := true, apart := false, laid := [("unicode/utf8.acceptRanges", laid_unicode_utf8_acceptRanges), ("unicode/utf8.first", laid_unicode_utf8_first)], narrowed := true }
def PlanSpansUptoSaid : Prop := planSpansUptoRow.holds Tryd.pinned (OpenSpec.upto planSpansSpec)

/-- 'vestrylaw15.PlanMeets', WHERE WHAT IT READS IS OF BULK AT MOST 1048576: true; the input reads as it did. -/
def planMeetsUptoRow : OpenClaim := { program := "ytoaclbilkoeghaadoor", sum := "3c47e73540c5122abbdcf263fed6509b3068837cde650028d99e2d73d0ab9fd8", func := "vestry/vestrylaw15.PlanMeets", spec := "planMeets", inPlace := ["internal/bytealg.Compare", "internal/bytealg.Count", "internal/bytealg.IndexByte", "internal/bytealg.Index"], unfollowed := true, recurses := true, named := ["internal/bytealg.MaxLen", "unicode/utf8.first", "unicode/utf8.acceptRanges"], apart := false, laid := [("unicode/utf8.acceptRanges", laid_unicode_utf8_acceptRanges), ("unicode/utf8.first", laid_unicode_utf8_first)], narrowed := true }
def PlanMeetsUptoSaid : Prop := planMeetsUptoRow.holds Tryd.pinned (OpenSpec.upto planMeetsSpec)

/-- 'vestrylaw15.PlanBoth', WHERE WHAT IT READS IS OF BULK AT MOST 1048576: true; the input reads as it did. -/
def planBothUptoRow : OpenClaim := { program := "ytoaclbilkoeghaadoor", sum := "3c47e73540c5122abbdcf263fed6509b3068837cde650028d99e2d73d0ab9fd8", func := "vestry/vestrylaw15.PlanBoth", spec := "planBoth", inPlace := ["internal/bytealg.Compare", "internal/bytealg.Count", "internal/bytealg.IndexByte", "internal/bytealg.Index"], unfollowed := true, recurses := true, named := ["internal/bytealg.MaxLen", "unicode/utf8.first", "unicode/utf8.acceptRanges"], apart := false, laid := [("unicode/utf8.acceptRanges", laid_unicode_utf8_acceptRanges), ("unicode/utf8.first", laid_unicode_utf8_first)], narrowed := true }
def PlanBothUptoSaid : Prop := planBothUptoRow.holds Tryd.pinned (OpenSpec.upto planBothSpec)

/-- 'vestrylaw15.PlanPoints', WHERE WHAT IT READS IS OF BULK AT MOST 1048576: true; the input reads as it did. -/
def planPointsUptoRow : OpenClaim := { program := "ytoaclbilkoeghaadoor", sum := "3c47e73540c5122abbdcf263fed6509b3068837cde650028d99e2d73d0ab9fd8", func := "vestry/vestrylaw15.PlanPoints", spec := "planPoints", inPlace := ["internal/bytealg.Compare", "internal/bytealg.Count", "internal/bytealg.IndexByte", "internal/bytealg.Index", "internal/bytealg.abigen_runtime_cmpstring"], unfollowed := true, recurses := true, named := ["internal/bytealg.MaxLen", "unicode/utf8.first", "unicode/utf8.acceptRanges"], apart := false, laid := [("unicode/utf8.acceptRanges", laid_unicode_utf8_acceptRanges), ("unicode/utf8.first", laid_unicode_utf8_first)], narrowed := true }
def PlanPointsUptoSaid : Prop := planPointsUptoRow.holds Tryd.pinned (OpenSpec.upto planPointsSpec)

/-- 'vestrylaw15.PlanMisses', WHERE WHAT IT READS IS OF BULK AT MOST 1048576: true; the input reads as it did. -/
def planMissesUptoRow : OpenClaim := { program := "ytoaclbilkoeghaadoor", sum := "3c47e73540c5122abbdcf263fed6509b3068837cde650028d99e2d73d0ab9fd8", func := "vestry/vestrylaw15.PlanMisses", spec := "planMisses", inPlace := ["internal/bytealg.Compare", "internal/bytealg.Count", "internal/bytealg.IndexByte", "internal/bytealg.Index", "internal/bytealg.abigen_runtime_cmpstring"], unfollowed := true, recurses := true, named := ["internal/bytealg.MaxLen", "unicode/utf8.first", "unicode/utf8.acceptRanges"], loops := true, apart := false, laid := [("unicode/utf8.acceptRanges", laid_unicode_utf8_acceptRanges), ("unicode/utf8.first", laid_unicode_utf8_first)], narrowed := true }
def PlanMissesUptoSaid : Prop := planMissesUptoRow.holds Tryd.pinned (OpenSpec.upto planMissesSpec)

end Rows
end Go.Proofs.YtoaclbilkoeghaaDoor
