/-
  NARROWER THAN 'FOR EVERY INPUT', by the rows' own cells (each row's printed sentence says how): EvalRows: loops · EvalTells: loops.
  DERIVED. THE GIVEN ROWS OF THIS SEAT. 5 by the template 'for every input the law returns true; each argument reads behind the call as it read before'; 0 by the template 'total and deterministic' (their statements: YtdmigcfokjobaaaTotals.lean).
  GIVEN WITH THE SEED: the statements are not yours to turn. If you find one false, say at which input.
  Laid BY PROGRAM, IN A SANDBOX (cutbox-rows.mjs): the forced cells as the released guide's own fill.sh prints them over the translation 93f0e231b61177ef… (all of the seat's roots in one cut). By AI agents, Wed Nov 11 2026. No macro, syntax, notation, axiom, sorry.
-/
import Derived.Test.YtdmigcfokjobaaaChecked
import GoSem.Claim
import GoSem.ClaimJoined
import GoSem.ClaimMapViews
import Derived.JoinedTies
import Derived.KernelRfl
namespace Go.Proofs.Ytdmigcfokjobaaa
/- THE CELL 'sum', in the pinned program and in every row, IS THE sha256 OF THE DUMP (.gsa) THAT YtdmigcfokjobaaaProg.lean LOADS. Nothing in Lean hashes anything: it is a label: what it is worth is what the hold of that sum in a sandbox is worth. -/
noncomputable def Try.pinned : Pinned := { name := "ytdmigcfokjobaaa", sum := "93f0e231b61177efced6991995a070920f5ead2661fb78453e1d3aa2c6994f1b", checked := Try.checked }
namespace Rows
def none {H : Type} : Left H := { results := [], args := [] }

/-- 'vestrylaw13.EvalOps': WHATEVER THE INPUT: true; the input reads as it did. -/
def evalOpsSpec : ChangeSpec := { name := "evalOps", fn := fun _ => fun
  | [d1, d2, d3] => { results := [.lit (.bool true)], args := [d1, d2, d3] }
  | _ => none }
def evalOpsRow : OpenClaim := { program := "ytdmigcfokjobaaa", sum := "93f0e231b61177efced6991995a070920f5ead2661fb78453e1d3aa2c6994f1b", func := "vestry/vestrylaw13.EvalOps", spec := "evalOps", inPlace := ["internal/bytealg.abigen_runtime_cmpstring"], unfollowed := true, recurses := true, apart := false }
def EvalOpsSaid : Prop := evalOpsRow.holds Try.pinned (OpenSpec.ofChange evalOpsSpec)

/-- ITS FALSE NEIGHBOUR: 'it returns false'. Refute it at one input. -/
def evalOpsWrong : ChangeSpec := { name := "evalOps", fn := fun _ => fun
  | [d1, d2, d3] => { results := [.lit (.bool false)], args := [d1, d2, d3] }
  | _ => none }
def EvalOpsWrongFalsely : Prop := evalOpsRow.holds Try.pinned (OpenSpec.ofChange evalOpsWrong)

/-- 'vestrylaw13.EvalLogic': WHATEVER THE INPUT: true; the input reads as it did. -/
def evalLogicSpec : ChangeSpec := { name := "evalLogic", fn := fun _ => fun
  | [d1, d2, d3] => { results := [.lit (.bool true)], args := [d1, d2, d3] }
  | _ => none }
def evalLogicRow : OpenClaim := { program := "ytdmigcfokjobaaa", sum := "93f0e231b61177efced6991995a070920f5ead2661fb78453e1d3aa2c6994f1b", func := "vestry/vestrylaw13.EvalLogic", spec := "evalLogic", inPlace := ["internal/bytealg.abigen_runtime_cmpstring"], unfollowed := true, recurses := true, apart := false }
def EvalLogicSaid : Prop := evalLogicRow.holds Try.pinned (OpenSpec.ofChange evalLogicSpec)

/-- ITS FALSE NEIGHBOUR: 'it returns false'. Refute it at one input. -/
def evalLogicWrong : ChangeSpec := { name := "evalLogic", fn := fun _ => fun
  | [d1, d2, d3] => { results := [.lit (.bool false)], args := [d1, d2, d3] }
  | _ => none }
def EvalLogicWrongFalsely : Prop := evalLogicRow.holds Try.pinned (OpenSpec.ofChange evalLogicWrong)

/-- 'vestrylaw13.EvalRows': WHATEVER THE INPUT: true; the input reads as it did. -/
def evalRowsSpec : ChangeSpec := { name := "evalRows", fn := fun _ => fun
  | [d1, d2, d3] => { results := [.lit (.bool true)], args := [d1, d2, d3] }
  | _ => none }
def evalRowsRow : OpenClaim := { program := "ytdmigcfokjobaaa", sum := "93f0e231b61177efced6991995a070920f5ead2661fb78453e1d3aa2c6994f1b", func := "vestry/vestrylaw13.EvalRows", spec := "evalRows", inPlace := ["internal/bytealg.abigen_runtime_cmpstring"], unfollowed := true, recurses := true, loops := true, apart := false }
def EvalRowsSaid : Prop := evalRowsRow.holds Try.pinned (OpenSpec.ofChange evalRowsSpec)

/-- ITS FALSE NEIGHBOUR: 'it returns false'. Refute it at one input. -/
def evalRowsWrong : ChangeSpec := { name := "evalRows", fn := fun _ => fun
  | [d1, d2, d3] => { results := [.lit (.bool false)], args := [d1, d2, d3] }
  | _ => none }
def EvalRowsWrongFalsely : Prop := evalRowsRow.holds Try.pinned (OpenSpec.ofChange evalRowsWrong)

/-- 'vestrylaw13.EvalNulls': WHATEVER THE INPUT: true; the input reads as it did. -/
def evalNullsSpec : ChangeSpec := { name := "evalNulls", fn := fun _ => fun
  | [d1, d2] => { results := [.lit (.bool true)], args := [d1, d2] }
  | _ => none }
def evalNullsRow : OpenClaim := { program := "ytdmigcfokjobaaa", sum := "93f0e231b61177efced6991995a070920f5ead2661fb78453e1d3aa2c6994f1b", func := "vestry/vestrylaw13.EvalNulls", spec := "evalNulls", inPlace := ["internal/bytealg.abigen_runtime_cmpstring"], unfollowed := true, recurses := true, apart := false }
def EvalNullsSaid : Prop := evalNullsRow.holds Try.pinned (OpenSpec.ofChange evalNullsSpec)

/-- ITS FALSE NEIGHBOUR: 'it returns false'. Refute it at one input. -/
def evalNullsWrong : ChangeSpec := { name := "evalNulls", fn := fun _ => fun
  | [d1, d2] => { results := [.lit (.bool false)], args := [d1, d2] }
  | _ => none }
def EvalNullsWrongFalsely : Prop := evalNullsRow.holds Try.pinned (OpenSpec.ofChange evalNullsWrong)

/-- 'vestrylaw13.EvalTells': WHATEVER THE INPUT: true; the input reads as it did. -/
def evalTellsSpec : ChangeSpec := { name := "evalTells", fn := fun _ => fun
  | [d1, d2] => { results := [.lit (.bool true)], args := [d1, d2] }
  | _ => none }
def evalTellsRow : OpenClaim := { program := "ytdmigcfokjobaaa", sum := "93f0e231b61177efced6991995a070920f5ead2661fb78453e1d3aa2c6994f1b", func := "vestry/vestrylaw13.EvalTells", spec := "evalTells", inPlace := ["internal/bytealg.abigen_runtime_cmpstring"], unfollowed := true, recurses := true, loops := true, apart := false }
def EvalTellsSaid : Prop := evalTellsRow.holds Try.pinned (OpenSpec.ofChange evalTellsSpec)

/-- ITS FALSE NEIGHBOUR: 'it returns false'. Refute it at one input. -/
def evalTellsWrong : ChangeSpec := { name := "evalTells", fn := fun _ => fun
  | [d1, d2] => { results := [.lit (.bool false)], args := [d1, d2] }
  | _ => none }
def EvalTellsWrongFalsely : Prop := evalTellsRow.holds Try.pinned (OpenSpec.ofChange evalTellsWrong)

/- THE SECOND FORM. 'bulk': how many values and letters a reading holds, each counted each time it is reached (what is shared counts as often as it is met; a slice's spare places count too). A statement '..UptoSaid' is the law's where the arguments, and the package variables that the reading takes, are together of bulk at most 1048576: NARROWER than '..Said'. Prove '..Said' where nothing that the law and all that it calls make is longer than what came in: it says more and counts as full. Else prove '..UptoSaid'. A law counts once. -/
mutual
def uptoBulk {H : Type} : DataW H → Nat
  | .lit (.string bytes) => bytes.length + 1
  | .lit _ => 1
  | .nil => 1
  | .ptr d => uptoBulk d + 1
  | .slice elems spare => uptoBulkAll elems + uptoBulkAll spare + 1
  | .agg parts => uptoBulkAll parts + 1
  | .iface _ d => uptoBulk d + 1
  | .map entries => uptoBulkEntries entries + 1
  | .held _ => 1
def uptoBulkAll {H : Type} : List (DataW H) → Nat
  | [] => 0
  | d :: r => uptoBulk d + uptoBulkAll r
def uptoBulkEntries {H : Type} : List (Lit × DataW H) → Nat
  | [] => 0
  | x :: r => uptoBulkEntry x + uptoBulkEntries r
def uptoBulkEntry {H : Type} : Lit × DataW H → Nat
  | (.string bytes, d) => bytes.length + uptoBulk d + 1
  | (_, d) => uptoBulk d + 1
 end
def uptoSmall : (H : Type) → List (DataW H) → Bool := fun _ ds => decide (uptoBulkAll ds ≤ 1048576)
def OpenSpec.upto (s : _root_.Go.ChangeSpec) : _root_.Go.OpenSpec := { _root_.Go.OpenSpec.ofChange s with cond := some uptoSmall }

/-- 'vestrylaw13.EvalOps', WHERE WHAT IT READS IS OF BULK AT MOST 1048576: true; the input reads as it did. -/
def evalOpsUptoRow : OpenClaim := { program := "ytdmigcfokjobaaa", sum := "93f0e231b61177efced6991995a070920f5ead2661fb78453e1d3aa2c6994f1b", func := "vestry/vestrylaw13.EvalOps", spec := "evalOps", inPlace := ["internal/bytealg.abigen_runtime_cmpstring"], unfollowed := true, recurses := true, apart := false, narrowed := true }
def EvalOpsUptoSaid : Prop := evalOpsUptoRow.holds Try.pinned (OpenSpec.upto evalOpsSpec)

/-- 'vestrylaw13.EvalLogic', WHERE WHAT IT READS IS OF BULK AT MOST 1048576: true; the input reads as it did. -/
def evalLogicUptoRow : OpenClaim := { program := "ytdmigcfokjobaaa", sum := "93f0e231b61177efced6991995a070920f5ead2661fb78453e1d3aa2c6994f1b", func := "vestry/vestrylaw13.EvalLogic", spec := "evalLogic", inPlace := ["internal/bytealg.abigen_runtime_cmpstring"], unfollowed := true, recurses := true, apart := false, narrowed := true }
def EvalLogicUptoSaid : Prop := evalLogicUptoRow.holds Try.pinned (OpenSpec.upto evalLogicSpec)

/-- 'vestrylaw13.EvalRows', WHERE WHAT IT READS IS OF BULK AT MOST 1048576: true; the input reads as it did. -/
def evalRowsUptoRow : OpenClaim := { program := "ytdmigcfokjobaaa", sum := "93f0e231b61177efced6991995a070920f5ead2661fb78453e1d3aa2c6994f1b", func := "vestry/vestrylaw13.EvalRows", spec := "evalRows", inPlace := ["internal/bytealg.abigen_runtime_cmpstring"], unfollowed := true, recurses := true, loops := true, apart := false, narrowed := true }
def EvalRowsUptoSaid : Prop := evalRowsUptoRow.holds Try.pinned (OpenSpec.upto evalRowsSpec)

/-- 'vestrylaw13.EvalNulls', WHERE WHAT IT READS IS OF BULK AT MOST 1048576: true; the input reads as it did. -/
def evalNullsUptoRow : OpenClaim := { program := "ytdmigcfokjobaaa", sum := "93f0e231b61177efced6991995a070920f5ead2661fb78453e1d3aa2c6994f1b", func := "vestry/vestrylaw13.EvalNulls", spec := "evalNulls", inPlace := ["internal/bytealg.abigen_runtime_cmpstring"], unfollowed := true, recurses := true, apart := false, narrowed := true }
def EvalNullsUptoSaid : Prop := evalNullsUptoRow.holds Try.pinned (OpenSpec.upto evalNullsSpec)

/-- 'vestrylaw13.EvalTells', WHERE WHAT IT READS IS OF BULK AT MOST 1048576: true; the input reads as it did. -/
def evalTellsUptoRow : OpenClaim := { program := "ytdmigcfokjobaaa", sum := "93f0e231b61177efced6991995a070920f5ead2661fb78453e1d3aa2c6994f1b", func := "vestry/vestrylaw13.EvalTells", spec := "evalTells", inPlace := ["internal/bytealg.abigen_runtime_cmpstring"], unfollowed := true, recurses := true, loops := true, apart := false, narrowed := true }
def EvalTellsUptoSaid : Prop := evalTellsUptoRow.holds Try.pinned (OpenSpec.upto evalTellsSpec)

end Rows
end Go.Proofs.Ytdmigcfokjobaaa
