/- What the functions answer, and the laws. -/
import Derived.Test.YtdmigcfokjobaaaN
import Derived.Test.YtdmigcfokjobaaaRows
import Derived.WalkKit
import Derived.WalkSpells
import Derived.WalkLawsBesides
import Derived.Lib.Strings
import Derived.Lib.Slices
import Derived.Lib.Walk
import Derived.Lib.Bytealg
import Derived.ProofKit

set_option linter.unusedVariables false

set_option linter.unusedSimpArgs false

set_option linter.unusedSectionVars false

open Go Go.Ev

namespace Go.Proofs.Ytdmigcfokjobaaa

set_option maxHeartbeats 1000000 in
set_option maxRecDepth 100000 in
theorem bytealg_compare (a b : ByteArray) (w : World) :
    Calls Try.prog 53 #[.string a, .string b] w fun e w' => e = .returned (.int .i64 (Lib.compareBytes a.data.toList b.data.toList)) ∧ w' = w := by
  go_enter Try.func53, Try.ntmps53
  go_wp2
  rw [run_callFunc_extern Try.func54 (by kernel_rfl) (by kernel_rfl) (by kernel_rfl) (e := Extern.BytealgCompare.compare) (by kernel_rfl), Lib.run_compareString]
  simp only [Result.andThen]
  rw [Oper.upon_value]
  go_wp2
  go_ret
  exact ⟨rfl, rfl⟩

set_option maxHeartbeats 1000000 in
theorem strings_compare (a b : ByteArray) (w : World) :
    Calls Try.prog 49 #[.string a, .string b] w fun e w' => e = .returned (.int .i64 (Lib.compareBytes a.data.toList b.data.toList)) ∧ w' = w := by
  go_enter Try.func49, Try.ntmps49
  go_wp2_with (go_at_call 53; refine (bytealg_compare _ _ _).mono ?_; rintro e w' ⟨rfl, rfl⟩)
  go_ret
  exact ⟨rfl, rfl⟩

theorem prims : ∀ (g : FuncId) p os rr, C.prim g = some p → p os = some rr → CallSpec C.P g os rr.1 rr.2 := by
  intro g p os rr h1 h2
  by_cases h : g = 49
  · subst h
    have : p = primCompare := (Option.some.inj h1).symm
    subst this
    exact primCompare_spec strings_compare h2
  · have e : prim g = none := by
      unfold prim
      split
      · exact absurd rfl h
      · rfl
    rw [show C.prim g = prim g from rfl, e] at h1
    cases h1
end Go.Proofs.Ytdmigcfokjobaaa

