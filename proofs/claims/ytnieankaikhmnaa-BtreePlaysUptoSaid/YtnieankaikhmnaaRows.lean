/-
  No cell of these rows narrows 'for every input' (looked for: loops, veiled, ifaces, maps, wideKeys, modest, calm, conditions, laid).
  DERIVED. THE GIVEN ROWS OF THIS SEAT. 5 by the template 'for every input the law returns true; each argument reads behind the call as it read before'; 0 by the template 'total and deterministic' (their statements: YtnieankaikhmnaaTotals.lean).
  GIVEN WITH THE SEED: the statements are not yours to turn. If you find one false, say at which input.
  Laid BY PROGRAM, IN A SANDBOX (cutbox-rows.mjs): the forced cells as the released guide's own fill.sh prints them over the translation e71bd792cdeb23a0… (all of the seat's roots in one cut). By AI agents, Wed Nov 11 2026. No macro, syntax, notation, axiom, sorry.
-/
import Derived.Test.YtnieankaikhmnaaChecked
import GoSem.Claim
import GoSem.ClaimJoined
import GoSem.ClaimMapViews
import Derived.JoinedTies
import Derived.KernelRfl
namespace Go.Proofs.Ytnieankaikhmnaa
/- THE CELL 'sum', in the pinned program and in every row, IS THE sha256 OF THE DUMP (.gsa) THAT YtnieankaikhmnaaProg.lean LOADS. Nothing in Lean hashes anything: it is a label: what it is worth is what the hold of that sum in a sandbox is worth. -/
noncomputable def Try.pinned : Pinned := { name := "ytnieankaikhmnaa", sum := "e71bd792cdeb23a06c0cb7aba725ff7c5f0ef49571294e706d954527da53ff11", checked := Try.checked }
namespace Rows
def none {H : Type} : Left H := { results := [], args := [] }

/-- 'vestrylaw14.BtreeRanges': WHATEVER THE INPUT: true; the input reads as it did. -/
def btreeRangesSpec : ChangeSpec := { name := "btreeRanges", fn := fun _ => fun
  | [d1, d2, d3, d4] => { results := [.lit (.bool true)], args := [d1, d2, d3, d4] }
  | _ => none }
def btreeRangesRow : OpenClaim := { program := "ytnieankaikhmnaa", sum := "e71bd792cdeb23a06c0cb7aba725ff7c5f0ef49571294e706d954527da53ff11", func := "vestry/vestrylaw14.BtreeRanges", spec := "btreeRanges", inPlace := ["internal/bytealg.Compare", "slices.overlaps[vestry/api.Entry]", "slices.overlaps[*vestry/btree.page]"], unfollowed := true, recurses := true, apart := false }
def BtreeRangesSaid : Prop := btreeRangesRow.holds Try.pinned (OpenSpec.ofChange btreeRangesSpec)

/-- ITS FALSE NEIGHBOUR: 'it returns false'. Refute it at one input. -/
def btreeRangesWrong : ChangeSpec := { name := "btreeRanges", fn := fun _ => fun
  | [d1, d2, d3, d4] => { results := [.lit (.bool false)], args := [d1, d2, d3, d4] }
  | _ => none }
def BtreeRangesWrongFalsely : Prop := btreeRangesRow.holds Try.pinned (OpenSpec.ofChange btreeRangesWrong)

/-- 'vestrylaw14.BtreeGets': WHATEVER THE INPUT: true; the input reads as it did. -/
def btreeGetsSpec : ChangeSpec := { name := "btreeGets", fn := fun _ => fun
  | [d1, d2, d3, d4] => { results := [.lit (.bool true)], args := [d1, d2, d3, d4] }
  | _ => none }
def btreeGetsRow : OpenClaim := { program := "ytnieankaikhmnaa", sum := "e71bd792cdeb23a06c0cb7aba725ff7c5f0ef49571294e706d954527da53ff11", func := "vestry/vestrylaw14.BtreeGets", spec := "btreeGets", inPlace := ["internal/bytealg.Compare", "slices.overlaps[vestry/api.Entry]", "slices.overlaps[*vestry/btree.page]"], unfollowed := true, recurses := true, apart := false }
def BtreeGetsSaid : Prop := btreeGetsRow.holds Try.pinned (OpenSpec.ofChange btreeGetsSpec)

/-- ITS FALSE NEIGHBOUR: 'it returns false'. Refute it at one input. -/
def btreeGetsWrong : ChangeSpec := { name := "btreeGets", fn := fun _ => fun
  | [d1, d2, d3, d4] => { results := [.lit (.bool false)], args := [d1, d2, d3, d4] }
  | _ => none }
def BtreeGetsWrongFalsely : Prop := btreeGetsRow.holds Try.pinned (OpenSpec.ofChange btreeGetsWrong)

/-- 'vestrylaw14.BtreePlays': WHATEVER THE INPUT: true; the input reads as it did. -/
def btreePlaysSpec : ChangeSpec := { name := "btreePlays", fn := fun _ => fun
  | [d] => { results := [.lit (.bool true)], args := [d] }
  | _ => none }
def btreePlaysRow : OpenClaim := { program := "ytnieankaikhmnaa", sum := "e71bd792cdeb23a06c0cb7aba725ff7c5f0ef49571294e706d954527da53ff11", func := "vestry/vestrylaw14.BtreePlays", spec := "btreePlays", inPlace := ["internal/bytealg.Compare", "slices.overlaps[vestry/api.Entry]", "slices.overlaps[*vestry/btree.page]"], unfollowed := true, recurses := true, apart := false }
def BtreePlaysSaid : Prop := btreePlaysRow.holds Try.pinned (OpenSpec.ofChange btreePlaysSpec)

/-- ITS FALSE NEIGHBOUR: 'it returns false'. Refute it at one input. -/
def btreePlaysWrong : ChangeSpec := { name := "btreePlays", fn := fun _ => fun
  | [d] => { results := [.lit (.bool false)], args := [d] }
  | _ => none }
def BtreePlaysWrongFalsely : Prop := btreePlaysRow.holds Try.pinned (OpenSpec.ofChange btreePlaysWrong)

/-- 'vestrylaw14.BtreeClones': WHATEVER THE INPUT: true; the input reads as it did. -/
def btreeClonesSpec : ChangeSpec := { name := "btreeClones", fn := fun _ => fun
  | [d1, d2, d3] => { results := [.lit (.bool true)], args := [d1, d2, d3] }
  | _ => none }
def btreeClonesRow : OpenClaim := { program := "ytnieankaikhmnaa", sum := "e71bd792cdeb23a06c0cb7aba725ff7c5f0ef49571294e706d954527da53ff11", func := "vestry/vestrylaw14.BtreeClones", spec := "btreeClones", inPlace := ["internal/bytealg.Compare", "slices.overlaps[vestry/api.Entry]", "slices.overlaps[*vestry/btree.page]"], unfollowed := true, recurses := true, apart := false }
def BtreeClonesSaid : Prop := btreeClonesRow.holds Try.pinned (OpenSpec.ofChange btreeClonesSpec)

/-- ITS FALSE NEIGHBOUR: 'it returns false'. Refute it at one input. -/
def btreeClonesWrong : ChangeSpec := { name := "btreeClones", fn := fun _ => fun
  | [d1, d2, d3] => { results := [.lit (.bool false)], args := [d1, d2, d3] }
  | _ => none }
def BtreeClonesWrongFalsely : Prop := btreeClonesRow.holds Try.pinned (OpenSpec.ofChange btreeClonesWrong)

/-- 'vestrylaw14.BtreeShapes': WHATEVER THE INPUT: true; the input reads as it did. -/
def btreeShapesSpec : ChangeSpec := { name := "btreeShapes", fn := fun _ => fun
  | [d] => { results := [.lit (.bool true)], args := [d] }
  | _ => none }
def btreeShapesRow : OpenClaim := { program := "ytnieankaikhmnaa", sum := "e71bd792cdeb23a06c0cb7aba725ff7c5f0ef49571294e706d954527da53ff11", func := "vestry/vestrylaw14.BtreeShapes", spec := "btreeShapes", inPlace := ["internal/bytealg.Compare", "slices.overlaps[vestry/api.Entry]", "slices.overlaps[*vestry/btree.page]"], unfollowed := true, recurses := true, apart := false }
def BtreeShapesSaid : Prop := btreeShapesRow.holds Try.pinned (OpenSpec.ofChange btreeShapesSpec)

/-- ITS FALSE NEIGHBOUR: 'it returns false'. Refute it at one input. -/
def btreeShapesWrong : ChangeSpec := { name := "btreeShapes", fn := fun _ => fun
  | [d] => { results := [.lit (.bool false)], args := [d] }
  | _ => none }
def BtreeShapesWrongFalsely : Prop := btreeShapesRow.holds Try.pinned (OpenSpec.ofChange btreeShapesWrong)

/- THE SECOND FORM. 'bulk': how many values and letters a reading holds, each counted each time it is reached (what is shared counts as often as it is met; a slice's spare places count too). A statement '..UptoSaid' is the law's where the arguments, and the package variables that the reading takes, are together of bulk at most 1048576: NARROWER than '..Said'. Prove '..Said' where nothing that the law and all that it calls make is longer than what came in: it says more and counts as full. Else prove '..UptoSaid'. A law counts once. -/
mutual
def uptoBulk {H : Type} : DataW H → Nat
  | .lit (.string bytes) => bytes.length + 1
  | .lit _ => 1
  | .nil => 1
  | .ptr d => uptoBulk d + 1
  | .slice elems spare => uptoBulkAll elems + uptoBulkAll spare + 1
  | .agg parts => uptoBulkAll parts + 1
  | .iface _ d => uptoBulk d + 1
  | .map entries => uptoBulkEntries entries + 1
  | .held _ => 1
def uptoBulkAll {H : Type} : List (DataW H) → Nat
  | [] => 0
  | d :: r => uptoBulk d + uptoBulkAll r
def uptoBulkEntries {H : Type} : List (Lit × DataW H) → Nat
  | [] => 0
  | x :: r => uptoBulkEntry x + uptoBulkEntries r
def uptoBulkEntry {H : Type} : Lit × DataW H → Nat
  | (.string bytes, d) => bytes.length + uptoBulk d + 1
  | (_, d) => uptoBulk d + 1
 end
def uptoSmall : (H : Type) → List (DataW H) → Bool := fun _ ds => decide (uptoBulkAll ds ≤ 1048576)
def OpenSpec.upto (s : _root_.Go.ChangeSpec) : _root_.Go.OpenSpec := { _root_.Go.OpenSpec.ofChange s with cond := some uptoSmall }

/-- 'vestrylaw14.BtreeRanges', WHERE WHAT IT READS IS OF BULK AT MOST 1048576: true; the input reads as it did. -/
def btreeRangesUptoRow : OpenClaim := { program := "ytnieankaikhmnaa", sum := "e71bd792cdeb23a06c0cb7aba725ff7c5f0ef49571294e706d954527da53ff11", func := "vestry/vestrylaw14.BtreeRanges", spec := "btreeRanges", inPlace := ["internal/bytealg.Compare", "slices.overlaps[vestry/api.Entry]", "slices.overlaps[*vestry/btree.page]"], unfollowed := true, recurses := true, apart := false, narrowed := true }
def BtreeRangesUptoSaid : Prop := btreeRangesUptoRow.holds Try.pinned (OpenSpec.upto btreeRangesSpec)

/-- 'vestrylaw14.BtreeGets', WHERE WHAT IT READS IS OF BULK AT MOST 1048576: true; the input reads as it did. -/
def btreeGetsUptoRow : OpenClaim := { program := "ytnieankaikhmnaa", sum := "e71bd792cdeb23a06c0cb7aba725ff7c5f0ef49571294e706d954527da53ff11", func := "vestry/vestrylaw14.BtreeGets", spec := "btreeGets", inPlace := ["internal/bytealg.Compare", "slices.overlaps[vestry/api.Entry]", "slices.overlaps[*vestry/btree.page]"], unfollowed := true, recurses := true, apart := false, narrowed := true }
def BtreeGetsUptoSaid : Prop := btreeGetsUptoRow.holds Try.pinned (OpenSpec.upto btreeGetsSpec)

/-- 'vestrylaw14.BtreePlays', WHERE WHAT IT READS IS OF BULK AT MOST 1048576: true; the input reads as it did. -/
def btreePlaysUptoRow : OpenClaim := { program := "ytnieankaikhmnaa", sum := "e71bd792cdeb23a06c0cb7aba725ff7c5f0ef49571294e706d954527da53ff11", func := "vestry/vestrylaw14.BtreePlays", spec := "btreePlays", inPlace := ["internal/bytealg.Compare", "slices.overlaps[vestry/api.Entry]", "slices.overlaps[*vestry/btree.page]"], unfollowed := true, recurses := true, apart := false, narrowed := true }
def BtreePlaysUptoSaid : Prop := btreePlaysUptoRow.holds Try.pinned (OpenSpec.upto btreePlaysSpec)

/-- 'vestrylaw14.BtreeClones', WHERE WHAT IT READS IS OF BULK AT MOST 1048576: true; the input reads as it did. -/
def btreeClonesUptoRow : OpenClaim := { program := "ytnieankaikhmnaa", sum := "e71bd792cdeb23a06c0cb7aba725ff7c5f0ef49571294e706d954527da53ff11", func := "vestry/vestrylaw14.BtreeClones", spec := "btreeClones", inPlace := ["internal/bytealg.Compare", "slices.overlaps[vestry/api.Entry]", "slices.overlaps[*vestry/btree.page]"], unfollowed := true, recurses := true, apart := false, narrowed := true }
def BtreeClonesUptoSaid : Prop := btreeClonesUptoRow.holds Try.pinned (OpenSpec.upto btreeClonesSpec)

/-- 'vestrylaw14.BtreeShapes', WHERE WHAT IT READS IS OF BULK AT MOST 1048576: true; the input reads as it did. -/
def btreeShapesUptoRow : OpenClaim := { program := "ytnieankaikhmnaa", sum := "e71bd792cdeb23a06c0cb7aba725ff7c5f0ef49571294e706d954527da53ff11", func := "vestry/vestrylaw14.BtreeShapes", spec := "btreeShapes", inPlace := ["internal/bytealg.Compare", "slices.overlaps[vestry/api.Entry]", "slices.overlaps[*vestry/btree.page]"], unfollowed := true, recurses := true, apart := false, narrowed := true }
def BtreeShapesUptoSaid : Prop := btreeShapesUptoRow.holds Try.pinned (OpenSpec.upto btreeShapesSpec)

end Rows
end Go.Proofs.Ytnieankaikhmnaa
