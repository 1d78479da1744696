/- What the functions answer, and the laws. -/
import Derived.Test.YtdmigcfokjobaaaP
import Derived.OpenShut
import Derived.JoinedCond

set_option linter.unusedVariables false

set_option linter.unusedSimpArgs false

set_option linter.unusedSectionVars false

open Go Go.Ev

namespace Go.Proofs.Ytdmigcfokjobaaa
set_option maxHeartbeats 1000000

open Go.ChangeShapes Go.WideShapes Go.ChangeAt Go.RowKit

theorem own : ownKnob Try.prog.godebug = Option.none := by kernel_rfl
def types : List TypeId := [3, 9, 23, 33, 35, 36]
theorem ty3 {v : PV} (h : Typed Try.prog 3 v) : ∃ n, v = .int .i64 n ∧ inI n := by
  obtain ⟨d, hd⟩ := h.get
  obtain ⟨n, h1, h2⟩ := hd.int (k := .i64) (by kernel_rfl)
  exact ⟨n, h.cell (by kernel_rfl) h1, wf_i64 h2⟩
theorem tc23 {d : Nat} {cs : List PV} (h : TypedC Try.prog d 23 cs) : ∃ k n t, cs = [.int .i64 k, .int .i64 n, .str t] ∧ inI k ∧ inI n ∧ t.length ≤ maxLen := by
  have hl : cs.length = 3 := (h.len (by kernel_rfl)).trans (by kernel_rfl)
  match cs, hl with
  | [x, y, z], _ =>
    obtain ⟨k, h1, h2⟩ := (h.field (i := 0) (ty := 3) (off := 0) (n := 1) (by kernel_rfl)).int (k := .i64) (by kernel_rfl)
    obtain ⟨n, h3, h4⟩ := (h.field (i := 1) (ty := 3) (off := 1) (n := 1) (by kernel_rfl)).int (k := .i64) (by kernel_rfl)
    obtain ⟨t, h5, h6⟩ := (h.field (i := 2) (ty := 9) (off := 2) (n := 1) (by kernel_rfl)).str (by kernel_rfl)
    simp at h1 h3 h5
    exact ⟨k, n, t, by rw [h1, h3, h5], wf_i64 h2, wf_i64 h4, h6⟩
theorem ty23 {v : PV} (h : Typed Try.prog 23 v) : ∃ k n t, v = .agg [.int .i64 k, .int .i64 n, .str t] ∧ inI k ∧ inI n ∧ t.length ≤ maxLen := by
  obtain ⟨d, hd⟩ := h.get
  obtain ⟨k, n, t, h1, h2⟩ := tc23 hd
  exact ⟨k, n, t, by rw [h.agg (n := 3) (by kernel_rfl), h1], h2⟩
theorem tcE : ∀ (d : Nat) (cs : List PV), TypedC Try.prog d 35 cs → IsE (.agg cs)
  | 0, cs, h => h.elim
  | d + 1, cs, h => by
    have hl : cs.length = 8 := (h.len (by kernel_rfl)).trans (by kernel_rfl)
    match cs, hl with
    | [x0, x1, x2, x3, x4, x5, x6, x7], _ =>
      obtain ⟨k, h0, _⟩ := (h.field (i := 0) (ty := 3) (off := 0) (n := 1) (by kernel_rfl)).int (k := .i64) (by kernel_rfl)
      obtain ⟨o, h1, _⟩ := (h.field (i := 1) (ty := 3) (off := 1) (n := 1) (by kernel_rfl)).int (k := .i64) (by kernel_rfl)
      obtain ⟨s1, h2, _⟩ := (h.field (i := 2) (ty := 9) (off := 2) (n := 1) (by kernel_rfl)).str (by kernel_rfl)
      obtain ⟨s2, h3, _⟩ := (h.field (i := 3) (ty := 9) (off := 3) (n := 1) (by kernel_rfl)).str (by kernel_rfl)
      obtain ⟨vk, vn, vt, h4, _, iv, _⟩ := tc23 (h.field (i := 4) (ty := 23) (off := 4) (n := 3) (by kernel_rfl))
      obtain ⟨gs, h5, _, h6⟩ := (h.field (i := 5) (ty := 33) (off := 7) (n := 1) (by kernel_rfl)).slice (e := 35) (sh := some 8) (by kernel_rfl) (by kernel_rfl)
      simp at h0 h1 h2 h3 h4 h5
      obtain ⟨h4, h4', h4''⟩ := h4
      subst h0 h1 h2 h3 h4 h4' h4'' h5
      refine .mk _ _ _ _ _ _ _ _ iv fun x hx => ?_
      obtain ⟨g1, g2⟩ := h6 x hx
      rw [fits_agg g1]
      exact tcE (d - 1) _ g2
termination_by d => d
decreasing_by omega
theorem ty35 {v : PV} (h : Typed Try.prog 35 v) : IsE v := by
  obtain ⟨d, hd⟩ := h.get
  rw [h.agg (n := 8) (by kernel_rfl)]
  exact tcE d _ hd
theorem bulk_len : ∀ (xs : List PV), (∀ x ∈ xs, IsV x) → xs.length ≤ pvBulks xs
  | [], _ => Nat.zero_le _
  | x :: r, h => by
    obtain ⟨k, n, t, rfl, _⟩ := h x (by simp)
    have := bulk_len r fun y hy => h y (by simp [hy])
    simp only [pvBulks, pvBulk, List.length_cons]
    omega
theorem ty36 {v : PV} (h : Typed Try.prog 36 v) : ∃ xs, v = .sl (some 3) xs ∧ ∀ x ∈ xs, IsV x := by
  obtain ⟨d, hd⟩ := h.get
  obtain ⟨xs, h1, _, h2⟩ := hd.slice (e := 23) (sh := some 3) (by kernel_rfl) (by kernel_rfl)
  refine ⟨xs, h.cell (by kernel_rfl) h1, fun x hx => ?_⟩
  obtain ⟨g1, g2⟩ := h2 x hx
  obtain ⟨k, n, t, g3, _, g4, _⟩ := tc23 g2
  exact ⟨k, n, t, by rw [fits_agg g1, g3], g4⟩
mutual
theorem upto1 {H : Type} (d : DataW H) : Rows.uptoBulk d = dBulk d := match d with
  | .lit l => by cases l <;> simp [Rows.uptoBulk, dBulk]
  | .nil => by simp [Rows.uptoBulk, dBulk]
  | .ptr d => by simp [Rows.uptoBulk, dBulk, upto1 d]
  | .slice es sp => by simp [Rows.uptoBulk, dBulk, uptoL es, uptoL sp]
  | .agg ps => by simp [Rows.uptoBulk, dBulk, uptoL ps]
  | .iface t d => by simp [Rows.uptoBulk, dBulk, upto1 d]
  | .map es => by simp [Rows.uptoBulk, dBulk, uptoEs es]
  | .held h => by simp [Rows.uptoBulk, dBulk]
theorem uptoL {H : Type} (ds : List (DataW H)) : Rows.uptoBulkAll ds = dBulks ds := match ds with
  | [] => by simp [Rows.uptoBulkAll, dBulks]
  | d :: r => by simp [Rows.uptoBulkAll, dBulks, upto1 d, uptoL r]
theorem uptoEs {H : Type} (ds : List (Lit × DataW H)) : Rows.uptoBulkEntries ds = dBulkEs ds := match ds with
  | [] => by simp [Rows.uptoBulkEntries, dBulkEs]
  | d :: r => by simp [Rows.uptoBulkEntries, dBulkEs, uptoE d, uptoEs r]
theorem uptoE {H : Type} (x : Lit × DataW H) : Rows.uptoBulkEntry x = dBulkE x := match x with
  | (l, d) => by cases l <;> simp [Rows.uptoBulkEntry, dBulkE, upto1 d]
end
theorem small_of {H : Type} {ds : List (DataW H)} (h : Rows.uptoSmall H ds = true) : dBulks ds ≤ 1048576 := by
  rw [← uptoL]
  exact of_decide_eq_true h

theorem law3 (vs : List PV) (h : TypedAll Try.prog [3, 23, 23] vs) : ∃ n outs, pcall C n 3 (vs.map fun v => .flat (.val v)) = some ([.flat (.val (.bool true))], outs) := by
  obtain ⟨v1, r, rfl, h1, h⟩ := h.cons_inv
  obtain ⟨v2, r, rfl, h2, h⟩ := h.cons_inv
  obtain ⟨v3, r, rfl, h3, h⟩ := h.cons_inv
  cases h.nil_inv
  obtain ⟨o, rfl, i1⟩ := ty3 h1
  obtain ⟨k1, n1, t1, rfl, _, i2, _⟩ := ty23 h2
  obtain ⟨k2, n2, t2, rfl, _, i3, _⟩ := ty23 h3
  exact ⟨_, _, s3 0 o k1 n1 t1 k2 n2 t2 i2 i3⟩
theorem law4 (vs : List PV) (h : TypedAll Try.prog [23, 23, 23] vs) : ∃ n outs, pcall C n 4 (vs.map fun v => .flat (.val v)) = some ([.flat (.val (.bool true))], outs) := by
  obtain ⟨v1, r, rfl, h1, h⟩ := h.cons_inv
  obtain ⟨v2, r, rfl, h2, h⟩ := h.cons_inv
  obtain ⟨v3, r, rfl, h3, h⟩ := h.cons_inv
  cases h.nil_inv
  obtain ⟨k1, n1, t1, rfl, _, i1, _⟩ := ty23 h1
  obtain ⟨k2, n2, t2, rfl, _, i2, _⟩ := ty23 h2
  obtain ⟨k3, n3, t3, rfl, _, i3, _⟩ := ty23 h3
  exact ⟨_, _, s4 0 ⟨k1, n1, t1⟩ ⟨k2, n2, t2⟩ ⟨k3, n3, t3⟩ i1 i2 i3⟩
theorem law6 (vs : List PV) (h : TypedAll Try.prog [3, 23] vs) : ∃ n outs, pcall C n 6 (vs.map fun v => .flat (.val v)) = some ([.flat (.val (.bool true))], outs) := by
  obtain ⟨v1, r, rfl, h1, h⟩ := h.cons_inv
  obtain ⟨v2, r, rfl, h2, h⟩ := h.cons_inv
  cases h.nil_inv
  obtain ⟨o, rfl, i1⟩ := ty3 h1
  obtain ⟨k2, n2, t2, rfl, _, i2, _⟩ := ty23 h2
  exact ⟨_, _, s6 0 o ⟨k2, n2, t2⟩ i2⟩
theorem law5 (vs : List PV) (h : TypedAll Try.prog [35, 36, 36] vs) (hb : pvBulks vs ≤ 1048576) : ∃ n outs, pcall C n 5 (vs.map fun v => .flat (.val v)) = some ([.flat (.val (.bool true))], outs) := by
  obtain ⟨v1, r, rfl, h1, h⟩ := h.cons_inv
  obtain ⟨v2, r, rfl, h2, h⟩ := h.cons_inv
  obtain ⟨v3, r, rfl, h3, h⟩ := h.cons_inv
  cases h.nil_inv
  have e1 := ty35 h1
  obtain ⟨xs, rfl, e2⟩ := ty36 h2
  obtain ⟨ys, rfl, e3⟩ := ty36 h3
  have l2 := bulk_len xs e2
  have l3 := bulk_len ys e3
  simp only [pvBulks, pvBulk] at hb
  exact ⟨_, _, s5 0 v1 xs ys e1 e2 e3 (by omega)⟩
theorem law7 (vs : List PV) (h : TypedAll Try.prog [35, 36] vs) (hb : pvBulks vs ≤ 1048576) : ∃ n outs, pcall C n 7 (vs.map fun v => .flat (.val v)) = some ([.flat (.val (.bool true))], outs) := by
  obtain ⟨v1, r, rfl, h1, h⟩ := h.cons_inv
  obtain ⟨v2, r, rfl, h2, h⟩ := h.cons_inv
  cases h.nil_inv
  have e1 := ty35 h1
  obtain ⟨xs, rfl, e2⟩ := ty36 h2
  have l2 := bulk_len xs e2
  simp only [pvBulks, pvBulk] at hb
  exact ⟨_, _, s7 (40 + xs.length) v1 xs e1 e2 (by omega) (by omega)⟩

theorem contract3 (H : Type) (enc : TypeId × Value → H) (W : World) (base : Nat) (args : Array Value) (ds gs : List (DataW H)) (before : List MemPlace)
    (hval : ∀ (j : Nat) t v, Try.f3.params[j]? = some t → args[j]? = some v → Value.okWide Try.prog W .any base t v)
    (hW : DataW.Whole enc Try.prog Try.f3.params.toList Rows.evalOpsSpec.vars false W args.toList ds gs before) :
    Calls Try.prog 3 args W fun e W' => ∃ v, e = .returned v ∧ Rows.evalOpsSpec.post enc Try.prog Try.f3 false true false false W args v W' :=
  law_contract (C := C) (T := types) (tb := 4) names prims laid (by kernel_rfl) (by intro t ht; rw [show Try.f3.params.toList = [3, 23, 23] by kernel_rfl] at ht; revert t; decide) rfl (fun ds hds => by
    rw [show Try.f3.params.size = 3 by kernel_rfl] at hds
    match ds, hds with
    | [x0, x1, x2], _ => rfl) (by kernel_rfl) (by kernel_rfl) hval hW (fun vs hv _ => law3 vs (by
      rw [show Try.f3.params.toList = [3, 23, 23] by kernel_rfl] at hv
      exact hv))
set_option maxRecDepth 100000 in
theorem lifted3 (os : Os) (started : os.Started) (H : Type) (enc : TypeId × Value → H) :
    ReturnsInHanded {} Try.checked os 3 .any (Rows.evalOpsSpec.pre6 enc Try.prog Try.f3 Rows.evalOpsRow.domain false) (Rows.evalOpsSpec.post enc Try.prog Try.f3 false true false false) := by
  refine returnsInHanded_of_change (C := Try.checked) own started (by kernel_rfl) Try.func3
    (ChangeSpec.witness6 (enc := enc) (C := Try.checked) false ⟨#[], #[.int .i64 0, .agg #[.int .i64 0, .int .i64 0, .string ⟨#[]⟩], .agg #[.int .i64 0, .int .i64 0, .string ⟨#[]⟩]], []⟩ 8 (by kernel_rfl) (by kernel_rfl) (by kernel_rfl) (by kernel_rfl)) ?_
  intro W base args ds gs before hval hW _ _
  exact contract3 H enc W base args ds gs before hval hW
theorem evalOps_holds : Rows.EvalOpsSaid :=
  OpenClaim.holds_of_wide 3 Try.f3 rfl rfl rfl rfl rfl rfl rfl ⟨rfl, rfl, rfl, rfl, rfl⟩ rfl rfl rfl rfl rfl (by kernel_rfl) Try.func3 (by kernel_rfl)
    (of_decide_eq_true (by kernel_rfl)) (by unfold Func.isWrapper; first | (rw [if_pos (by decide +kernel)]; kernel_rfl) | (rw [if_neg (by decide +kernel)]; exact ⟨rfl, rfl⟩))
    (fun os started H enc _ => lifted3 os started H enc)

theorem contract4 (H : Type) (enc : TypeId × Value → H) (W : World) (base : Nat) (args : Array Value) (ds gs : List (DataW H)) (before : List MemPlace)
    (hval : ∀ (j : Nat) t v, Try.f4.params[j]? = some t → args[j]? = some v → Value.okWide Try.prog W .any base t v)
    (hW : DataW.Whole enc Try.prog Try.f4.params.toList Rows.evalLogicSpec.vars false W args.toList ds gs before) :
    Calls Try.prog 4 args W fun e W' => ∃ v, e = .returned v ∧ Rows.evalLogicSpec.post enc Try.prog Try.f4 false true false false W args v W' :=
  law_contract (C := C) (T := types) (tb := 4) names prims laid (by kernel_rfl) (by intro t ht; rw [show Try.f4.params.toList = [23, 23, 23] by kernel_rfl] at ht; revert t; decide) rfl (fun ds hds => by
    rw [show Try.f4.params.size = 3 by kernel_rfl] at hds
    match ds, hds with
    | [x0, x1, x2], _ => rfl) (by kernel_rfl) (by kernel_rfl) hval hW (fun vs hv _ => law4 vs (by
      rw [show Try.f4.params.toList = [23, 23, 23] by kernel_rfl] at hv
      exact hv))
set_option maxRecDepth 100000 in
theorem lifted4 (os : Os) (started : os.Started) (H : Type) (enc : TypeId × Value → H) :
    ReturnsInHanded {} Try.checked os 4 .any (Rows.evalLogicSpec.pre6 enc Try.prog Try.f4 Rows.evalLogicRow.domain false) (Rows.evalLogicSpec.post enc Try.prog Try.f4 false true false false) := by
  refine returnsInHanded_of_change (C := Try.checked) own started (by kernel_rfl) Try.func4
    (ChangeSpec.witness6 (enc := enc) (C := Try.checked) false ⟨#[], #[.agg #[.int .i64 0, .int .i64 0, .string ⟨#[]⟩], .agg #[.int .i64 0, .int .i64 0, .string ⟨#[]⟩], .agg #[.int .i64 0, .int .i64 0, .string ⟨#[]⟩]], []⟩ 8 (by kernel_rfl) (by kernel_rfl) (by kernel_rfl) (by kernel_rfl)) ?_
  intro W base args ds gs before hval hW _ _
  exact contract4 H enc W base args ds gs before hval hW
theorem evalLogic_holds : Rows.EvalLogicSaid :=
  OpenClaim.holds_of_wide 4 Try.f4 rfl rfl rfl rfl rfl rfl rfl ⟨rfl, rfl, rfl, rfl, rfl⟩ rfl rfl rfl rfl rfl (by kernel_rfl) Try.func4 (by kernel_rfl)
    (of_decide_eq_true (by kernel_rfl)) (by unfold Func.isWrapper; first | (rw [if_pos (by decide +kernel)]; kernel_rfl) | (rw [if_neg (by decide +kernel)]; exact ⟨rfl, rfl⟩))
    (fun os started H enc _ => lifted4 os started H enc)

theorem contract6 (H : Type) (enc : TypeId × Value → H) (W : World) (base : Nat) (args : Array Value) (ds gs : List (DataW H)) (before : List MemPlace)
    (hval : ∀ (j : Nat) t v, Try.f6.params[j]? = some t → args[j]? = some v → Value.okWide Try.prog W .any base t v)
    (hW : DataW.Whole enc Try.prog Try.f6.params.toList Rows.evalNullsSpec.vars false W args.toList ds gs before) :
    Calls Try.prog 6 args W fun e W' => ∃ v, e = .returned v ∧ Rows.evalNullsSpec.post enc Try.prog Try.f6 false true false false W args v W' :=
  law_contract (C := C) (T := types) (tb := 4) names prims laid (by kernel_rfl) (by intro t ht; rw [show Try.f6.params.toList = [3, 23] by kernel_rfl] at ht; revert t; decide) rfl (fun ds hds => by
    rw [show Try.f6.params.size = 2 by kernel_rfl] at hds
    match ds, hds with
    | [x0, x1], _ => rfl) (by kernel_rfl) (by kernel_rfl) hval hW (fun vs hv _ => law6 vs (by
      rw [show Try.f6.params.toList = [3, 23] by kernel_rfl] at hv
      exact hv))
set_option maxRecDepth 100000 in
theorem lifted6 (os : Os) (started : os.Started) (H : Type) (enc : TypeId × Value → H) :
    ReturnsInHanded {} Try.checked os 6 .any (Rows.evalNullsSpec.pre6 enc Try.prog Try.f6 Rows.evalNullsRow.domain false) (Rows.evalNullsSpec.post enc Try.prog Try.f6 false true false false) := by
  refine returnsInHanded_of_change (C := Try.checked) own started (by kernel_rfl) Try.func6
    (ChangeSpec.witness6 (enc := enc) (C := Try.checked) false ⟨#[], #[.int .i64 0, .agg #[.int .i64 0, .int .i64 0, .string ⟨#[]⟩]], []⟩ 8 (by kernel_rfl) (by kernel_rfl) (by kernel_rfl) (by kernel_rfl)) ?_
  intro W base args ds gs before hval hW _ _
  exact contract6 H enc W base args ds gs before hval hW
theorem evalNulls_holds : Rows.EvalNullsSaid :=
  OpenClaim.holds_of_wide 6 Try.f6 rfl rfl rfl rfl rfl rfl rfl ⟨rfl, rfl, rfl, rfl, rfl⟩ rfl rfl rfl rfl rfl (by kernel_rfl) Try.func6 (by kernel_rfl)
    (of_decide_eq_true (by kernel_rfl)) (by unfold Func.isWrapper; first | (rw [if_pos (by decide +kernel)]; kernel_rfl) | (rw [if_neg (by decide +kernel)]; exact ⟨rfl, rfl⟩))
    (fun os started H enc _ => lifted6 os started H enc)

theorem contract5 (H : Type) (enc : TypeId × Value → H) (W : World) (base : Nat) (args : Array Value) (ds gs : List (DataW H)) (before : List MemPlace)
    (hval : ∀ (j : Nat) t v, Try.f5.params[j]? = some t → args[j]? = some v → Value.okWide Try.prog W .any base t v)
    (hW : DataW.Whole enc Try.prog Try.f5.params.toList Rows.evalRowsSpec.vars false W args.toList ds gs before) (hk : Rows.uptoSmall H (ds ++ gs) = true) :
    Calls Try.prog 5 args W fun e W' => ∃ v, e = .returned v ∧ Rows.evalRowsSpec.post enc Try.prog Try.f5 false true false false W args v W' :=
  law_contract (C := C) (T := types) (tb := 4) names prims laid (by kernel_rfl) (by intro t ht; rw [show Try.f5.params.toList = [35, 36, 36] by kernel_rfl] at ht; revert t; decide) rfl (fun ds hds => by
    rw [show Try.f5.params.size = 3 by kernel_rfl] at hds
    match ds, hds with
    | [x0, x1, x2], _ => rfl) (by kernel_rfl) (by kernel_rfl) hval hW (fun vs hv hb => law5 vs (by
      rw [show Try.f5.params.toList = [35, 36, 36] by kernel_rfl] at hv
      exact hv) (Nat.le_trans hb (small_of hk)))
set_option maxRecDepth 100000 in
theorem lifted5 (os : Os) (started : os.Started) (H : Type) (enc : TypeId × Value → H) (F : Stop.Interp) :
    ReturnsInHanded {} Try.checked os 5 .any ((Rows.OpenSpec.upto Rows.evalRowsSpec).pre6 enc Try.prog Try.f5 Rows.evalRowsUptoRow.domain false) (((Rows.OpenSpec.upto Rows.evalRowsSpec).at F).post enc Try.prog Try.f5 false true false false) := by
  refine returnsInHanded_of_cond (C := Try.checked) (s := Rows.OpenSpec.upto Rows.evalRowsSpec) (k := Rows.uptoSmall) rfl own started (by kernel_rfl) Try.func5
    (OpenSpec.witness (enc := enc) (C := Try.checked) (s := Rows.OpenSpec.upto Rows.evalRowsSpec) (k := Rows.uptoSmall) rfl false ⟨#[], #[.agg #[.int .i64 0, .int .i64 0, .string ⟨#[]⟩, .string ⟨#[]⟩, .int .i64 0, .int .i64 0, .string ⟨#[]⟩, .slice none 0 0], .slice none 0 0, .slice none 0 0], []⟩ 8 (by kernel_rfl) (by kernel_rfl) (by kernel_rfl)
      (x := ([.agg [.lit (.int .i64 0), .lit (.int .i64 0), .lit (.string []), .lit (.string []), .agg [.lit (.int .i64 0), .lit (.int .i64 0), .lit (.string [])], .nil], .nil, .nil], [], [])) (by kernel_rfl) rfl (by kernel_rfl)) ?_
  intro W base args ds gs before hval hW _ hk _
  exact contract5 H enc W base args ds gs before hval hW hk
theorem evalRows_holds : Rows.EvalRowsUptoSaid :=
  OpenClaim.holds_of_cond 5 Try.f5 rfl rfl rfl rfl rfl rfl rfl ⟨rfl, rfl, rfl, rfl, rfl⟩ rfl rfl rfl rfl rfl (by kernel_rfl) Try.func5 (by kernel_rfl)
    (of_decide_eq_true (by kernel_rfl)) (by unfold Func.isWrapper; first | (rw [if_pos (by decide +kernel)]; kernel_rfl) | (rw [if_neg (by decide +kernel)]; exact ⟨rfl, rfl⟩))
    (fun os started H enc _ F => lifted5 os started H enc F)

theorem contract7 (H : Type) (enc : TypeId × Value → H) (W : World) (base : Nat) (args : Array Value) (ds gs : List (DataW H)) (before : List MemPlace)
    (hval : ∀ (j : Nat) t v, Try.f7.params[j]? = some t → args[j]? = some v → Value.okWide Try.prog W .any base t v)
    (hW : DataW.Whole enc Try.prog Try.f7.params.toList Rows.evalTellsSpec.vars false W args.toList ds gs before) (hk : Rows.uptoSmall H (ds ++ gs) = true) :
    Calls Try.prog 7 args W fun e W' => ∃ v, e = .returned v ∧ Rows.evalTellsSpec.post enc Try.prog Try.f7 false true false false W args v W' :=
  law_contract (C := C) (T := types) (tb := 4) names prims laid (by kernel_rfl) (by intro t ht; rw [show Try.f7.params.toList = [35, 36] by kernel_rfl] at ht; revert t; decide) rfl (fun ds hds => by
    rw [show Try.f7.params.size = 2 by kernel_rfl] at hds
    match ds, hds with
    | [x0, x1], _ => rfl) (by kernel_rfl) (by kernel_rfl) hval hW (fun vs hv hb => law7 vs (by
      rw [show Try.f7.params.toList = [35, 36] by kernel_rfl] at hv
      exact hv) (Nat.le_trans hb (small_of hk)))
set_option maxRecDepth 100000 in
theorem lifted7 (os : Os) (started : os.Started) (H : Type) (enc : TypeId × Value → H) (F : Stop.Interp) :
    ReturnsInHanded {} Try.checked os 7 .any ((Rows.OpenSpec.upto Rows.evalTellsSpec).pre6 enc Try.prog Try.f7 Rows.evalTellsUptoRow.domain false) (((Rows.OpenSpec.upto Rows.evalTellsSpec).at F).post enc Try.prog Try.f7 false true false false) := by
  refine returnsInHanded_of_cond (C := Try.checked) (s := Rows.OpenSpec.upto Rows.evalTellsSpec) (k := Rows.uptoSmall) rfl own started (by kernel_rfl) Try.func7
    (OpenSpec.witness (enc := enc) (C := Try.checked) (s := Rows.OpenSpec.upto Rows.evalTellsSpec) (k := Rows.uptoSmall) rfl false ⟨#[], #[.agg #[.int .i64 0, .int .i64 0, .string ⟨#[]⟩, .string ⟨#[]⟩, .int .i64 0, .int .i64 0, .string ⟨#[]⟩, .slice none 0 0], .slice none 0 0], []⟩ 8 (by kernel_rfl) (by kernel_rfl) (by kernel_rfl)
      (x := ([.agg [.lit (.int .i64 0), .lit (.int .i64 0), .lit (.string []), .lit (.string []), .agg [.lit (.int .i64 0), .lit (.int .i64 0), .lit (.string [])], .nil], .nil], [], [])) (by kernel_rfl) rfl (by kernel_rfl)) ?_
  intro W base args ds gs before hval hW _ hk _
  exact contract7 H enc W base args ds gs before hval hW hk
theorem evalTells_holds : Rows.EvalTellsUptoSaid :=
  OpenClaim.holds_of_cond 7 Try.f7 rfl rfl rfl rfl rfl rfl rfl ⟨rfl, rfl, rfl, rfl, rfl⟩ rfl rfl rfl rfl rfl (by kernel_rfl) Try.func7 (by kernel_rfl)
    (of_decide_eq_true (by kernel_rfl)) (by unfold Func.isWrapper; first | (rw [if_pos (by decide +kernel)]; kernel_rfl) | (rw [if_neg (by decide +kernel)]; exact ⟨rfl, rfl⟩))
    (fun os started H enc _ F => lifted7 os started H enc F)

end Go.Proofs.Ytdmigcfokjobaaa

