/- What the functions answer, and the laws. -/
import Derived.Test.YtgcjhapomljekaaDoorE
import Derived.OpenShut
import Derived.WalkKit
import Derived.ProofKit
import Derived.Deep.DeepHandedRow
import Derived.Lib.LaidTab
import Derived.Test.YtgcjhapomljekaaDoorCards
import Derived.Test.YtgcjhapomljekaaDoorTie

set_option linter.unusedVariables false

set_option linter.unusedSimpArgs false

set_option linter.unusedSectionVars false

open Go Go.Ev

namespace Go.Proofs.YtgcjhapomljekaaDoor
set_option maxHeartbeats 1000000
set_option maxRecDepth 100000

open Go.ChangeShapes Go.WideShapes Go.ChangeAt Go.RowKit

theorem contract8 (H : Type) (enc : TypeId × Value → H) (W : World) (base : Nat) (args : Array Value) (ds gs : List (DataW H)) (before : List MemPlace)
    (hval : ∀ (j : Nat) t v, Tryd.f8.params[j]? = some t → args[j]? = some v → Value.okWide Tryd.prog W .any base t v)
    (hW : DataW.Whole enc Tryd.prog Tryd.f8.params.toList Rows.valueSortsSpec.vars false W args.toList ds gs before) :
    Calls Tryd.prog 8 args W fun e W' => ∃ v, e = .returned v ∧ Rows.valueSortsSpec.post enc Tryd.prog Tryd.f8 false true false false W args v W' :=
  law_contract (C := C) (T := types) (tb := 4) names prims laid (by kernel_rfl) (by intro t ht; rw [show Tryd.f8.params.toList = [23, 23, 23] by kernel_rfl] at ht; revert t; decide) rfl (fun ds hds => by
    rw [show Tryd.f8.params.size = 3 by kernel_rfl] at hds
    match ds, hds with
    | [x0, x1, x2], _ => rfl) (by kernel_rfl) (by kernel_rfl) hval hW (fun vs hv _ => law8 vs (by
      rw [show Tryd.f8.params.toList = [23, 23, 23] by kernel_rfl] at hv
      exact hv))
theorem laid_met8 (os : Os) : laidMet Tryd.prog Rows.valueSortsRow.laid ((laidWorld os).forCall (fun _ _ => 0) ⟨#[], #[.agg #[.int .i64 0, .int .i64 0, .string ⟨#[]⟩], .agg #[.int .i64 0, .int .i64 0, .string ⟨#[]⟩], .agg #[.int .i64 0, .int .i64 0, .string ⟨#[]⟩]], []⟩).memory :=
  laidMet_of_run' 8 (by kernel_rfl) (by kernel_rfl)
theorem reads8 (os : Os) {H : Type} (enc : TypeId × Value → H) : ∃ places, DataW.whole enc Tryd.prog ((laidWorld os).forCall (fun _ _ => 0) ⟨#[], #[.agg #[.int .i64 0, .int .i64 0, .string ⟨#[]⟩], .agg #[.int .i64 0, .int .i64 0, .string ⟨#[]⟩], .agg #[.int .i64 0, .int .i64 0, .string ⟨#[]⟩]], []⟩).memory Tryd.f8.params.toList Rows.valueSortsSpec.vars false #[.agg #[.int .i64 0, .int .i64 0, .string ⟨#[]⟩], .agg #[.int .i64 0, .int .i64 0, .string ⟨#[]⟩], .agg #[.int .i64 0, .int .i64 0, .string ⟨#[]⟩]].toList 8 = some ([.agg [.lit (.int .i64 0), .lit (.int .i64 0), .lit (.string [])], .agg [.lit (.int .i64 0), .lit (.int .i64 0), .lit (.string [])], .agg [.lit (.int .i64 0), .lit (.int .i64 0), .lit (.string [])]], [], places) :=
  ⟨[], by kernel_rfl⟩
set_option maxRecDepth 100000 in
theorem lifted8 (os : Os) (started : os.Started) (H : Type) (enc : TypeId × Value → H) (F : Stop.Interp) :
    ReturnsInHanded {} Tryd.checked os 8 .any ((OpenSpec.ofChange Rows.valueSortsSpec).preRow enc Tryd.prog Tryd.f8 Rows.valueSortsRow.domain false Rows.valueSortsRow.laid) (((OpenSpec.ofChange Rows.valueSortsSpec).at F).post enc Tryd.prog Tryd.f8 false true false false) := by
  obtain ⟨places, hx⟩ := reads8 os enc
  refine returnsInHanded_of_row (C := Tryd.checked) (s := OpenSpec.ofChange Rows.valueSortsSpec) own started (by kernel_rfl) Tryd.func8
    (witness_row_at (enc := enc) (C := Tryd.checked) false (laidWorld os) #[.agg #[.int .i64 0, .int .i64 0, .string ⟨#[]⟩], .agg #[.int .i64 0, .int .i64 0, .string ⟨#[]⟩], .agg #[.int .i64 0, .int .i64 0, .string ⟨#[]⟩]] rfl (by kernel_rfl) (by kernel_rfl) (by kernel_rfl)
      (OpenSpec.preRow_of_cond 8 hx (by kernel_rfl) (fun k hk => by cases hk) (by kernel_rfl) (laid_met8 os))) ?_
  intro W base args ds gs before hval hW _ _ _ _ _ _
  exact contract8 H enc W base args ds gs before hval hW
theorem valueSorts_said : Rows.ValueSortsSaid :=
  OpenClaim.holds_of_cond 8 Tryd.f8 rfl rfl rfl rfl rfl rfl rfl ⟨rfl, rfl, rfl, rfl, rfl⟩ rfl rfl rfl rfl rfl (by kernel_rfl) Tryd.func8 (by kernel_rfl)
    (of_decide_eq_true (by kernel_rfl)) (by unfold Func.isWrapper; first | (rw [if_pos (by decide +kernel)]; kernel_rfl) | (rw [if_neg (by decide +kernel)]; exact ⟨rfl, rfl⟩))
    (fun os started H enc _ F => by rw [OpenClaim.pre_eq_preRow]; exact lifted8 os started H enc F)
theorem wants8_23 : Tryd.prog.wantsStandIn 23 = false := by kernel_rfl
theorem plain8 (f : FuncId) (fn : Func) (hf : Tryd.pinned.checked.prog.funcNamed "vestry/vestrylaw07.ValueSorts" = some f) (hfn : Tryd.pinned.checked.prog.funcs[f]? = some fn) :
    false = Tryd.pinned.checked.prog.looks [] ∧ ∀ (j : Nat) t, fn.params[j]? = some t → Tryd.pinned.checked.prog.wantsStandIn t = false := by
  obtain rfl : f = 8 := Option.some.inj ((show Tryd.prog.funcNamed "vestry/vestrylaw07.ValueSorts" = some 8 by kernel_rfl).symm.trans hf) |>.symm
  obtain rfl : fn = Tryd.f8 := (Option.some.inj (Tryd.func8.symm.trans hfn)).symm
  refine ⟨by kernel_rfl, fun j t ht => ?_⟩
  rw [show Tryd.f8.params = #[23, 23, 23] by kernel_rfl] at ht
  have hm := Array.mem_of_getElem? ht
  simp at hm
  have hall : t ∈ [23, 23, 23] := by simpa using hm
  clear hm ht
  simp only [List.mem_cons, List.not_mem_nil, or_false] at hall
  rcases hall with rfl | rfl | rfl
  all_goals first | exact wants8_23
/-- The card. -/
theorem valueSorts_holds : Rows.ValueSortsCardSaid :=
  Claim7.holds_tied_plain_at .later [] _ _ _ _ valueSorts_said (fun _ h => by cases h) (by kernel_rfl) (fun _ h => by cases h) valueSorts_row_tie rfl ⟨rfl, rfl⟩ (by kernel_rfl) rfl plain8 (by kernel_rfl)

theorem contract9 (H : Type) (enc : TypeId × Value → H) (W : World) (base : Nat) (args : Array Value) (ds gs : List (DataW H)) (before : List MemPlace)
    (hval : ∀ (j : Nat) t v, Tryd.f9.params[j]? = some t → args[j]? = some v → Value.okWide Tryd.prog W .any base t v)
    (hW : DataW.Whole enc Tryd.prog Tryd.f9.params.toList Rows.valueKindsSpec.vars false W args.toList ds gs before) :
    Calls Tryd.prog 9 args W fun e W' => ∃ v, e = .returned v ∧ Rows.valueKindsSpec.post enc Tryd.prog Tryd.f9 false true false false W args v W' :=
  law_contract (C := C) (T := types) (tb := 4) names prims laid (by kernel_rfl) (by intro t ht; rw [show Tryd.f9.params.toList = [3, 9] by kernel_rfl] at ht; revert t; decide) rfl (fun ds hds => by
    rw [show Tryd.f9.params.size = 2 by kernel_rfl] at hds
    match ds, hds with
    | [x0, x1], _ => rfl) (by kernel_rfl) (by kernel_rfl) hval hW (fun vs hv _ => law9 vs (by
      rw [show Tryd.f9.params.toList = [3, 9] by kernel_rfl] at hv
      exact hv))
theorem laid_met9 (os : Os) : laidMet Tryd.prog Rows.valueKindsRow.laid ((laidWorld os).forCall (fun _ _ => 0) ⟨#[], #[.int .i64 0, .string ⟨#[]⟩], []⟩).memory :=
  laidMet_of_run' 8 (by kernel_rfl) (by kernel_rfl)
theorem reads9 (os : Os) {H : Type} (enc : TypeId × Value → H) : ∃ places, DataW.whole enc Tryd.prog ((laidWorld os).forCall (fun _ _ => 0) ⟨#[], #[.int .i64 0, .string ⟨#[]⟩], []⟩).memory Tryd.f9.params.toList Rows.valueKindsSpec.vars false #[.int .i64 0, .string ⟨#[]⟩].toList 8 = some ([.lit (.int .i64 0), .lit (.string [])], [], places) :=
  ⟨[], by kernel_rfl⟩
set_option maxRecDepth 100000 in
theorem lifted9 (os : Os) (started : os.Started) (H : Type) (enc : TypeId × Value → H) (F : Stop.Interp) :
    ReturnsInHanded {} Tryd.checked os 9 .any ((OpenSpec.ofChange Rows.valueKindsSpec).preRow enc Tryd.prog Tryd.f9 Rows.valueKindsRow.domain false Rows.valueKindsRow.laid) (((OpenSpec.ofChange Rows.valueKindsSpec).at F).post enc Tryd.prog Tryd.f9 false true false false) := by
  obtain ⟨places, hx⟩ := reads9 os enc
  refine returnsInHanded_of_row (C := Tryd.checked) (s := OpenSpec.ofChange Rows.valueKindsSpec) own started (by kernel_rfl) Tryd.func9
    (witness_row_at (enc := enc) (C := Tryd.checked) false (laidWorld os) #[.int .i64 0, .string ⟨#[]⟩] rfl (by kernel_rfl) (by kernel_rfl) (by kernel_rfl)
      (OpenSpec.preRow_of_cond 8 hx (by kernel_rfl) (fun k hk => by cases hk) (by kernel_rfl) (laid_met9 os))) ?_
  intro W base args ds gs before hval hW _ _ _ _ _ _
  exact contract9 H enc W base args ds gs before hval hW
theorem valueKinds_said : Rows.ValueKindsSaid :=
  OpenClaim.holds_of_cond 9 Tryd.f9 rfl rfl rfl rfl rfl rfl rfl ⟨rfl, rfl, rfl, rfl, rfl⟩ rfl rfl rfl rfl rfl (by kernel_rfl) Tryd.func9 (by kernel_rfl)
    (of_decide_eq_true (by kernel_rfl)) (by unfold Func.isWrapper; first | (rw [if_pos (by decide +kernel)]; kernel_rfl) | (rw [if_neg (by decide +kernel)]; exact ⟨rfl, rfl⟩))
    (fun os started H enc _ F => by rw [OpenClaim.pre_eq_preRow]; exact lifted9 os started H enc F)
theorem wants9_3 : Tryd.prog.wantsStandIn 3 = false := by kernel_rfl
theorem wants9_9 : Tryd.prog.wantsStandIn 9 = false := by kernel_rfl
theorem plain9 (f : FuncId) (fn : Func) (hf : Tryd.pinned.checked.prog.funcNamed "vestry/vestrylaw07.ValueKinds" = some f) (hfn : Tryd.pinned.checked.prog.funcs[f]? = some fn) :
    false = Tryd.pinned.checked.prog.looks [] ∧ ∀ (j : Nat) t, fn.params[j]? = some t → Tryd.pinned.checked.prog.wantsStandIn t = false := by
  obtain rfl : f = 9 := Option.some.inj ((show Tryd.prog.funcNamed "vestry/vestrylaw07.ValueKinds" = some 9 by kernel_rfl).symm.trans hf) |>.symm
  obtain rfl : fn = Tryd.f9 := (Option.some.inj (Tryd.func9.symm.trans hfn)).symm
  refine ⟨by kernel_rfl, fun j t ht => ?_⟩
  rw [show Tryd.f9.params = #[3, 9] by kernel_rfl] at ht
  have hm := Array.mem_of_getElem? ht
  simp at hm
  have hall : t ∈ [3, 9] := by simpa using hm
  clear hm ht
  simp only [List.mem_cons, List.not_mem_nil, or_false] at hall
  rcases hall with rfl | rfl
  all_goals first | exact wants9_3 | exact wants9_9
/-- The card. -/
theorem valueKinds_holds : Rows.ValueKindsCardSaid :=
  Claim7.holds_tied_plain_at .later [] _ _ _ _ valueKinds_said (fun _ h => by cases h) (by kernel_rfl) (fun _ h => by cases h) valueKinds_row_tie rfl ⟨rfl, rfl⟩ (by kernel_rfl) rfl plain9 (by kernel_rfl)

end Go.Proofs.YtgcjhapomljekaaDoor

