/- What the functions answer, and the laws. -/
import Derived.Test.YtdmigcfokjobaaaP
import Derived.OpenShut
import Derived.JoinedCond

open Go Go.Ev

namespace Go.Proofs.Ytdmigcfokjobaaa
open Go.ChangeShapes Go.WideShapes Go.ChangeAt Go.RowKit

theorem own : ownKnob Try.prog.godebug = Option.none := by kernel_rfl
def types : List TypeId := [3, 9, 23, 33, 35, 36]
theorem ty3 {v : PV} (h : Typed Try.prog 3 v) : ∃ n, v = .int .i64 n ∧ inI n := by
  obtain ⟨d, hd⟩ := h.get
  obtain ⟨n, h1, h2⟩ := hd.int (k := .i64) (by kernel_rfl)
  exact ⟨n, h.cell (by kernel_rfl) h1, wf_i64 h2⟩
theorem tc23 {d : Nat} {cs : List PV} (h : TypedC Try.prog d 23 cs) : ∃ k n t, cs = [.int .i64 k, .int .i64 n, .str t] ∧ inI k ∧ inI n ∧ t.length ≤ maxLen := by
  have hl : cs.length = 3 := (h.len (by kernel_rfl)).trans (by kernel_rfl)
  match cs, hl with
  | [x, y, z], _ =>
    obtain ⟨k, h1, h2⟩ := (h.field (i := 0) (ty := 3) (off := 0) (n := 1) (by kernel_rfl)).int (k := .i64) (by kernel_rfl)
    obtain ⟨n, h3, h4⟩ := (h.field (i := 1) (ty := 3) (off := 1) (n := 1) (by kernel_rfl)).int (k := .i64) (by kernel_rfl)
    obtain ⟨t, h5, h6⟩ := (h.field (i := 2) (ty := 9) (off := 2) (n := 1) (by kernel_rfl)).str (by kernel_rfl)
    simp at h1 h3 h5
    exact ⟨k, n, t, by rw [h1, h3, h5], wf_i64 h2, wf_i64 h4, h6⟩
theorem ty23 {v : PV} (h : Typed Try.prog 23 v) : ∃ k n t, v = .agg [.int .i64 k, .int .i64 n, .str t] ∧ inI k ∧ inI n ∧ t.length ≤ maxLen := by
  obtain ⟨d, hd⟩ := h.get
  obtain ⟨k, n, t, h1, h2⟩ := tc23 hd
  exact ⟨k, n, t, by rw [h.agg (n := 3) (by kernel_rfl), h1], h2⟩
theorem law_ops (vs : List PV) (h : TypedAll Try.prog [3, 23, 23] vs) : ∃ n outs, pcall C n 3 (vs.map fun v => .flat (.val v)) = some ([.flat (.val (.bool true))], outs) := by
  obtain ⟨v1, r, rfl, h1, h⟩ := h.cons_inv
  obtain ⟨v2, r, rfl, h2, h⟩ := h.cons_inv
  obtain ⟨v3, r, rfl, h3, h⟩ := h.cons_inv
  cases h.nil_inv
  obtain ⟨o, rfl, i1⟩ := ty3 h1
  obtain ⟨k1, n1, t1, rfl, _, i2, _⟩ := ty23 h2
  obtain ⟨k2, n2, t2, rfl, _, i3, _⟩ := ty23 h3
  exact ⟨_, _, s3 0 o k1 n1 t1 k2 n2 t2 i2 i3⟩
theorem contract_ops (H : Type) (enc : TypeId × Value → H) (W : World) (base : Nat) (args : Array Value) (ds gs : List (DataW H)) (before : List MemPlace)
    (hval : ∀ (j : Nat) t v, Try.f3.params[j]? = some t → args[j]? = some v → Value.okWide Try.prog W .any base t v)
    (hW : DataW.Whole enc Try.prog Try.f3.params.toList Rows.evalOpsSpec.vars false W args.toList ds gs before) :
    Calls Try.prog 3 args W fun e W' => ∃ v, e = .returned v ∧ Rows.evalOpsSpec.post enc Try.prog Try.f3 false true false false W args v W' :=
  law_contract (C := C) (T := types) (tb := 4) names prims laid (by kernel_rfl) (by intro t ht; rw [show Try.f3.params.toList = [3, 23, 23] by kernel_rfl] at ht; revert t; decide) rfl (fun ds hds => by
    rw [show Try.f3.params.size = 3 by kernel_rfl] at hds
    match ds, hds with
    | [x, y, z], _ => rfl) (by kernel_rfl) (by kernel_rfl) hval hW (fun vs hv _ => law_ops vs (by
      rw [show Try.f3.params.toList = [3, 23, 23] by kernel_rfl] at hv
      exact hv))
set_option maxRecDepth 100000 in
theorem lifted_ops (os : Os) (started : os.Started) (H : Type) (enc : TypeId × Value → H) :
    ReturnsInHanded {} Try.checked os 3 .any (Rows.evalOpsSpec.pre6 enc Try.prog Try.f3 Rows.evalOpsRow.domain false) (Rows.evalOpsSpec.post enc Try.prog Try.f3 false true false false) := by
  refine returnsInHanded_of_change (C := Try.checked) own started (by kernel_rfl) Try.func3
    (ChangeSpec.witness6 (enc := enc) (C := Try.checked) false ⟨#[], #[.int .i64 0, .agg #[.int .i64 0, .int .i64 0, .string ⟨#[]⟩], .agg #[.int .i64 0, .int .i64 0, .string ⟨#[]⟩]], []⟩ 8 (by kernel_rfl) (by kernel_rfl) (by kernel_rfl) (by kernel_rfl)) ?_
  intro W base args ds gs before hval hW _ _
  exact contract_ops H enc W base args ds gs before hval hW
theorem evalOps_holds : Rows.EvalOpsSaid :=
  OpenClaim.holds_of_wide 3 Try.f3 rfl rfl rfl rfl rfl rfl rfl ⟨rfl, rfl, rfl, rfl, rfl⟩ rfl rfl rfl rfl rfl (by kernel_rfl) Try.func3 (by kernel_rfl)
    (of_decide_eq_true (by kernel_rfl)) (by unfold Func.isWrapper; first | (rw [if_pos (by decide +kernel)]; kernel_rfl) | (rw [if_neg (by decide +kernel)]; exact ⟨rfl, rfl⟩))
    (fun os started H enc _ => lifted_ops os started H enc)
end Go.Proofs.Ytdmigcfokjobaaa

