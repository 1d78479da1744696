/-
  No cell of these rows narrows 'for every input' (looked for: loops, veiled, ifaces, maps, wideKeys, modest, calm, conditions, laid).
  DERIVED. THE GIVEN ROWS OF THIS SEAT. 5 by the template 'for every input the law returns true; each argument reads behind the call as it read before'; 0 by the template 'total and deterministic' (their statements: YthkmnomnfmjffaaTotals.lean).
  GIVEN WITH THE SEED: the statements are not yours to turn. If you find one false, say at which input.
  Laid BY PROGRAM, IN A SANDBOX (cutbox-rows.mjs): the forced cells as the released guide's own fill.sh prints them over the translation 9089a548881b1cdd… (all of the seat's roots in one cut). By AI agents, Wed Nov 11 2026. No macro, syntax, notation, axiom, sorry.
-/
import Derived.Test.YthkmnomnfmjffaaChecked
import GoSem.Claim
import GoSem.ClaimJoined
import GoSem.ClaimMapViews
import Derived.JoinedTies
import Derived.KernelRfl
namespace Go.Proofs.Ythkmnomnfmjffaa
/- THE CELL 'sum', in the pinned program and in every row, IS THE sha256 OF THE DUMP (.gsa) THAT YthkmnomnfmjffaaProg.lean LOADS. Nothing in Lean hashes anything: it is a label: what it is worth is what the hold of that sum in a sandbox is worth. -/
noncomputable def Try.pinned : Pinned := { name := "ythkmnomnfmjffaa", sum := "9089a548881b1cddb8d7d19eabeecae0f47cd250af3505500ccaec75474db7b9", checked := Try.checked }
namespace Rows
def none {H : Type} : Left H := { results := [], args := [] }

/-- 'vestrylaw01.PlainBlobs': WHATEVER THE INPUT: true; the input reads as it did. -/
def plainBlobsSpec : ChangeSpec := { name := "plainBlobs", fn := fun _ => fun
  | [d1, d2] => { results := [.lit (.bool true)], args := [d1, d2] }
  | _ => none }
def plainBlobsRow : OpenClaim := { program := "ythkmnomnfmjffaa", sum := "9089a548881b1cddb8d7d19eabeecae0f47cd250af3505500ccaec75474db7b9", func := "vestry/vestrylaw01.PlainBlobs", spec := "plainBlobs", apart := false }
def PlainBlobsSaid : Prop := plainBlobsRow.holds Try.pinned (OpenSpec.ofChange plainBlobsSpec)

/-- ITS FALSE NEIGHBOUR: 'it returns false'. Refute it at one input. -/
def plainBlobsWrong : ChangeSpec := { name := "plainBlobs", fn := fun _ => fun
  | [d1, d2] => { results := [.lit (.bool false)], args := [d1, d2] }
  | _ => none }
def PlainBlobsWrongFalsely : Prop := plainBlobsRow.holds Try.pinned (OpenSpec.ofChange plainBlobsWrong)

/-- 'vestrylaw01.PlainRows': WHATEVER THE INPUT: true; the input reads as it did. -/
def plainRowsSpec : ChangeSpec := { name := "plainRows", fn := fun _ => fun
  | [d1, d2] => { results := [.lit (.bool true)], args := [d1, d2] }
  | _ => none }
def plainRowsRow : OpenClaim := { program := "ythkmnomnfmjffaa", sum := "9089a548881b1cddb8d7d19eabeecae0f47cd250af3505500ccaec75474db7b9", func := "vestry/vestrylaw01.PlainRows", spec := "plainRows", apart := false }
def PlainRowsSaid : Prop := plainRowsRow.holds Try.pinned (OpenSpec.ofChange plainRowsSpec)

/-- ITS FALSE NEIGHBOUR: 'it returns false'. Refute it at one input. -/
def plainRowsWrong : ChangeSpec := { name := "plainRows", fn := fun _ => fun
  | [d1, d2] => { results := [.lit (.bool false)], args := [d1, d2] }
  | _ => none }
def PlainRowsWrongFalsely : Prop := plainRowsRow.holds Try.pinned (OpenSpec.ofChange plainRowsWrong)

/-- 'vestrylaw01.PlainCuts': WHATEVER THE INPUT: true; the input reads as it did. -/
def plainCutsSpec : ChangeSpec := { name := "plainCuts", fn := fun _ => fun
  | [d1, d2] => { results := [.lit (.bool true)], args := [d1, d2] }
  | _ => none }
def plainCutsRow : OpenClaim := { program := "ythkmnomnfmjffaa", sum := "9089a548881b1cddb8d7d19eabeecae0f47cd250af3505500ccaec75474db7b9", func := "vestry/vestrylaw01.PlainCuts", spec := "plainCuts", apart := false }
def PlainCutsSaid : Prop := plainCutsRow.holds Try.pinned (OpenSpec.ofChange plainCutsSpec)

/-- ITS FALSE NEIGHBOUR: 'it returns false'. Refute it at one input. -/
def plainCutsWrong : ChangeSpec := { name := "plainCuts", fn := fun _ => fun
  | [d1, d2] => { results := [.lit (.bool false)], args := [d1, d2] }
  | _ => none }
def PlainCutsWrongFalsely : Prop := plainCutsRow.holds Try.pinned (OpenSpec.ofChange plainCutsWrong)

/-- 'vestrylaw01.PlainKeys': WHATEVER THE INPUT: true; the input reads as it did. -/
def plainKeysSpec : ChangeSpec := { name := "plainKeys", fn := fun _ => fun
  | [d] => { results := [.lit (.bool true)], args := [d] }
  | _ => none }
def plainKeysRow : OpenClaim := { program := "ythkmnomnfmjffaa", sum := "9089a548881b1cddb8d7d19eabeecae0f47cd250af3505500ccaec75474db7b9", func := "vestry/vestrylaw01.PlainKeys", spec := "plainKeys", apart := false }
def PlainKeysSaid : Prop := plainKeysRow.holds Try.pinned (OpenSpec.ofChange plainKeysSpec)

/-- ITS FALSE NEIGHBOUR: 'it returns false'. Refute it at one input. -/
def plainKeysWrong : ChangeSpec := { name := "plainKeys", fn := fun _ => fun
  | [d] => { results := [.lit (.bool false)], args := [d] }
  | _ => none }
def PlainKeysWrongFalsely : Prop := plainKeysRow.holds Try.pinned (OpenSpec.ofChange plainKeysWrong)

/-- 'vestrylaw01.PlainNumbers': WHATEVER THE INPUT: true; the input reads as it did. -/
def plainNumbersSpec : ChangeSpec := { name := "plainNumbers", fn := fun _ => fun
  | [d1, d2] => { results := [.lit (.bool true)], args := [d1, d2] }
  | _ => none }
def plainNumbersRow : OpenClaim := { program := "ythkmnomnfmjffaa", sum := "9089a548881b1cddb8d7d19eabeecae0f47cd250af3505500ccaec75474db7b9", func := "vestry/vestrylaw01.PlainNumbers", spec := "plainNumbers", apart := false }
def PlainNumbersSaid : Prop := plainNumbersRow.holds Try.pinned (OpenSpec.ofChange plainNumbersSpec)

/-- ITS FALSE NEIGHBOUR: 'it returns false'. Refute it at one input. -/
def plainNumbersWrong : ChangeSpec := { name := "plainNumbers", fn := fun _ => fun
  | [d1, d2] => { results := [.lit (.bool false)], args := [d1, d2] }
  | _ => none }
def PlainNumbersWrongFalsely : Prop := plainNumbersRow.holds Try.pinned (OpenSpec.ofChange plainNumbersWrong)

/- THE SECOND FORM. 'bulk': how many values and letters a reading holds, each counted each time it is reached (what is shared counts as often as it is met; a slice's spare places count too). A statement '..UptoSaid' is the law's where the arguments, and the package variables that the reading takes, are together of bulk at most 1048576: NARROWER than '..Said'. Prove '..Said' where nothing that the law and all that it calls make is longer than what came in: it says more and counts as full. Else prove '..UptoSaid'. A law counts once. -/
mutual
def uptoBulk {H : Type} : DataW H → Nat
  | .lit (.string bytes) => bytes.length + 1
  | .lit _ => 1
  | .nil => 1
  | .ptr d => uptoBulk d + 1
  | .slice elems spare => uptoBulkAll elems + uptoBulkAll spare + 1
  | .agg parts => uptoBulkAll parts + 1
  | .iface _ d => uptoBulk d + 1
  | .map entries => uptoBulkEntries entries + 1
  | .held _ => 1
def uptoBulkAll {H : Type} : List (DataW H) → Nat
  | [] => 0
  | d :: r => uptoBulk d + uptoBulkAll r
def uptoBulkEntries {H : Type} : List (Lit × DataW H) → Nat
  | [] => 0
  | x :: r => uptoBulkEntry x + uptoBulkEntries r
def uptoBulkEntry {H : Type} : Lit × DataW H → Nat
  | (.string bytes, d) => bytes.length + uptoBulk d + 1
  | (_, d) => uptoBulk d + 1
 end
def uptoSmall : (H : Type) → List (DataW H) → Bool := fun _ ds => decide (uptoBulkAll ds ≤ 1048576)
def OpenSpec.upto (s : _root_.Go.ChangeSpec) : _root_.Go.OpenSpec := { _root_.Go.OpenSpec.ofChange s with cond := some uptoSmall }

/-- 'vestrylaw01.PlainBlobs', WHERE WHAT IT READS IS OF BULK AT MOST 1048576: true; the input reads as it did. -/
def plainBlobsUptoRow : OpenClaim := { program := "ythkmnomnfmjffaa", sum := "9089a548881b1cddb8d7d19eabeecae0f47cd250af3505500ccaec75474db7b9", func := "vestry/vestrylaw01.PlainBlobs", spec := "plainBlobs", apart := false, narrowed := true }
def PlainBlobsUptoSaid : Prop := plainBlobsUptoRow.holds Try.pinned (OpenSpec.upto plainBlobsSpec)

/-- 'vestrylaw01.PlainRows', WHERE WHAT IT READS IS OF BULK AT MOST 1048576: true; the input reads as it did. -/
def plainRowsUptoRow : OpenClaim := { program := "ythkmnomnfmjffaa", sum := "9089a548881b1cddb8d7d19eabeecae0f47cd250af3505500ccaec75474db7b9", func := "vestry/vestrylaw01.PlainRows", spec := "plainRows", apart := false, narrowed := true }
def PlainRowsUptoSaid : Prop := plainRowsUptoRow.holds Try.pinned (OpenSpec.upto plainRowsSpec)

/-- 'vestrylaw01.PlainCuts', WHERE WHAT IT READS IS OF BULK AT MOST 1048576: true; the input reads as it did. -/
def plainCutsUptoRow : OpenClaim := { program := "ythkmnomnfmjffaa", sum := "9089a548881b1cddb8d7d19eabeecae0f47cd250af3505500ccaec75474db7b9", func := "vestry/vestrylaw01.PlainCuts", spec := "plainCuts", apart := false, narrowed := true }
def PlainCutsUptoSaid : Prop := plainCutsUptoRow.holds Try.pinned (OpenSpec.upto plainCutsSpec)

/-- 'vestrylaw01.PlainKeys', WHERE WHAT IT READS IS OF BULK AT MOST 1048576: true; the input reads as it did. -/
def plainKeysUptoRow : OpenClaim := { program := "ythkmnomnfmjffaa", sum := "9089a548881b1cddb8d7d19eabeecae0f47cd250af3505500ccaec75474db7b9", func := "vestry/vestrylaw01.PlainKeys", spec := "plainKeys", apart := false, narrowed := true }
def PlainKeysUptoSaid : Prop := plainKeysUptoRow.holds Try.pinned (OpenSpec.upto plainKeysSpec)

/-- 'vestrylaw01.PlainNumbers', WHERE WHAT IT READS IS OF BULK AT MOST 1048576: true; the input reads as it did. -/
def plainNumbersUptoRow : OpenClaim := { program := "ythkmnomnfmjffaa", sum := "9089a548881b1cddb8d7d19eabeecae0f47cd250af3505500ccaec75474db7b9", func := "vestry/vestrylaw01.PlainNumbers", spec := "plainNumbers", apart := false, narrowed := true }
def PlainNumbersUptoSaid : Prop := plainNumbersUptoRow.holds Try.pinned (OpenSpec.upto plainNumbersSpec)

end Rows
end Go.Proofs.Ythkmnomnfmjffaa
