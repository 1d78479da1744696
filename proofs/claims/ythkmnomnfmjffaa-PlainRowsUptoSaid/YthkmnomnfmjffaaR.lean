/- What the functions answer, and the laws. -/
import Derived.Test.YthkmnomnfmjffaaW
import Derived.OpenShut
import Derived.JoinedCond
import Derived.Test.YthkmnomnfmjffaaRows

set_option linter.unusedVariables false

set_option linter.unusedSimpArgs false

set_option linter.unusedSectionVars false

open Go Go.Ev

set_option linter.unusedSimpArgs false

set_option linter.unusedVariables false

set_option maxHeartbeats 1000000

namespace Go.Proofs.Ythkmnomnfmjffaa

theorem ty3 {v : PV} (h : Typed Try.prog 3 v) : ∃ n, v = .int .i64 n ∧ -9223372036854775808 ≤ n ∧ n ≤ 9223372036854775807 := by
  obtain ⟨d, hd⟩ := h.get
  obtain ⟨n, h1, h2⟩ := hd.int (k := .i64) (by kernel_rfl)
  obtain ⟨h3, h4⟩ := wf_i64 h2
  exact ⟨n, h.cell (by kernel_rfl) h1, h3, h4⟩
theorem wf_u8 {n : Int} (h : (Lit.int .u8 n).wf = true) : 0 ≤ n ∧ n ≤ 255 := by
  simpa [Lit.wf, IntKind.min, IntKind.max, IntKind.signed, IntKind.bits] using h
theorem fits_cell {v x : PV} (h : pvFits none v = true) (hx : v.cells = [x]) : v = x := by
  cases v <;> first | (cases h; done) | (simp [PV.cells] at hx; exact hx)
theorem byte_of {d : Nat} {x : PV} (h1 : pvFits none x = true) (h2 : TypedC Try.prog d 5 x.cells) : ∃ b, x = pvByte b := by
  obtain ⟨n, h3, h4⟩ := h2.int (k := .u8) (by kernel_rfl)
  obtain ⟨h5, h6⟩ := wf_u8 h4
  refine ⟨UInt8.ofNat n.toNat, ?_⟩
  rw [fits_cell h1 h3]
  unfold pvByte
  congr 1
  have : n.toNat < 256 := by omega
  simp [UInt8.toNat_ofNat', Nat.mod_eq_of_lt this]
  omega
theorem bytes_of : ∀ (xs : List PV), (∀ x ∈ xs, ∃ b, x = pvByte b) → ∃ l, xs = bb l
  | [], h => ⟨[], rfl⟩
  | x :: r, h => by
    obtain ⟨b, hb⟩ := h x (by simp)
    obtain ⟨l, hl⟩ := bytes_of r fun y hy => h y (by simp [hy])
    exact ⟨b :: l, by rw [hb, hl]; rfl⟩
theorem tc22 {d : Nat} {cs : List PV} (h : TypedC Try.prog d 22 cs) : ∃ l, cs = [.sl none (bb l)] := by
  obtain ⟨xs, h1, _, h2⟩ := h.slice (e := 5) (sh := none) (by kernel_rfl) (by kernel_rfl)
  obtain ⟨l, hl⟩ := bytes_of xs fun x hx => byte_of (h2 x hx).1 (h2 x hx).2
  exact ⟨l, by rw [h1, hl]⟩
theorem ty22 {v : PV} (h : Typed Try.prog 22 v) : ∃ l, v = .sl none (bb l) := by
  obtain ⟨d, hd⟩ := h.get
  obtain ⟨l, hl⟩ := tc22 hd
  exact ⟨l, h.cell (by kernel_rfl) hl⟩
theorem rows_of : ∀ (xs : List PV), (∀ x ∈ xs, ∃ l, x = .sl none (bb l)) → ∃ l, xs = bbs l
  | [], h => ⟨[], rfl⟩
  | x :: r, h => by
    obtain ⟨b, hb⟩ := h x (by simp)
    obtain ⟨l, hl⟩ := rows_of r fun y hy => h y (by simp [hy])
    exact ⟨b :: l, by rw [hb, hl]; rfl⟩
theorem ty32 {v : PV} (h : Typed Try.prog 32 v) : ∃ l, v = .sl none (bbs l) := by
  obtain ⟨d, hd⟩ := h.get
  obtain ⟨xs, h1, _, h2⟩ := hd.slice (e := 22) (sh := none) (by kernel_rfl) (by kernel_rfl)
  obtain ⟨l, hl⟩ := rows_of xs fun x hx => by
    obtain ⟨q, hq⟩ := tc22 (h2 x hx).2
    exact ⟨q, fits_cell (h2 x hx).1 hq⟩
  exact ⟨l, by rw [h.cell (by kernel_rfl) h1, hl]⟩
theorem bulk_bb : ∀ (l : List UInt8), pvBulks (bb l) = l.length
  | [] => rfl
  | b :: r => by
    show pvBulk (pvByte b) + pvBulks (bb r) = _
    rw [bulk_bb r]
    simp [pvByte, pvBulk]; omega
theorem bulk_rows : ∀ (l : List (List UInt8)), l.length ≤ pvBulks (bbs l)
  | [] => Nat.zero_le _
  | p :: r => by
    have := bulk_rows r
    show r.length + 1 ≤ pvBulk (.sl none (bb p)) + pvBulks (bbs r)
    simp only [pvBulk]
    omega
theorem law4 (vs : List PV) (h : TypedAll Try.prog [32, 22] vs) (hb : pvBulks vs ≤ 1048576) : ∃ n outs, pcall C n 4 (vs.map fun v => .flat (.val v)) = some ([.flat (.val (.bool true))], outs) := by
  obtain ⟨v1, r, rfl, h1, h⟩ := h.cons_inv
  obtain ⟨v2, r, rfl, h2, h⟩ := h.cons_inv
  cases h.nil_inv
  obtain ⟨l, rfl⟩ := ty32 h1
  obtain ⟨b, rfl⟩ := ty22 h2
  simp only [pvBulks, pvBulk, bulk_bb] at hb
  exact ⟨_, _, s4 0 l b (by omega)⟩
end Go.Proofs.Ythkmnomnfmjffaa

open Go Go.Ev

namespace Go.Proofs.Ythkmnomnfmjffaa
set_option maxHeartbeats 1000000

open Go.ChangeShapes Go.WideShapes Go.ChangeAt Go.RowKit

theorem own : ownKnob Try.prog.godebug = Option.none := by kernel_rfl
def types : List TypeId := [3, 5, 22, 32]
mutual
theorem upto1 {H : Type} (d : DataW H) : Rows.uptoBulk d = dBulk d := match d with
  | .lit l => by cases l <;> simp [Rows.uptoBulk, dBulk]
  | .nil => by simp [Rows.uptoBulk, dBulk]
  | .ptr d => by simp [Rows.uptoBulk, dBulk, upto1 d]
  | .slice es sp => by simp [Rows.uptoBulk, dBulk, uptoL es, uptoL sp]
  | .agg ps => by simp [Rows.uptoBulk, dBulk, uptoL ps]
  | .iface t d => by simp [Rows.uptoBulk, dBulk, upto1 d]
  | .map es => by simp [Rows.uptoBulk, dBulk, uptoEs es]
  | .held h => by simp [Rows.uptoBulk, dBulk]
theorem uptoL {H : Type} (ds : List (DataW H)) : Rows.uptoBulkAll ds = dBulks ds := match ds with
  | [] => by simp [Rows.uptoBulkAll, dBulks]
  | d :: r => by simp [Rows.uptoBulkAll, dBulks, upto1 d, uptoL r]
theorem uptoEs {H : Type} (ds : List (Lit × DataW H)) : Rows.uptoBulkEntries ds = dBulkEs ds := match ds with
  | [] => by simp [Rows.uptoBulkEntries, dBulkEs]
  | d :: r => by simp [Rows.uptoBulkEntries, dBulkEs, uptoE d, uptoEs r]
theorem uptoE {H : Type} (x : Lit × DataW H) : Rows.uptoBulkEntry x = dBulkE x := match x with
  | (l, d) => by cases l <;> simp [Rows.uptoBulkEntry, dBulkE, upto1 d]
end
theorem small_of {H : Type} {ds : List (DataW H)} (h : Rows.uptoSmall H ds = true) : dBulks ds ≤ 1048576 := by
  rw [← uptoL]
  exact of_decide_eq_true h

theorem contract4 (H : Type) (enc : TypeId × Value → H) (W : World) (base : Nat) (args : Array Value) (ds gs : List (DataW H)) (before : List MemPlace)
    (hval : ∀ (j : Nat) t v, Try.f4.params[j]? = some t → args[j]? = some v → Value.okWide Try.prog W .any base t v)
    (hW : DataW.Whole enc Try.prog Try.f4.params.toList Rows.plainRowsSpec.vars false W args.toList ds gs before) (hk : Rows.uptoSmall H (ds ++ gs) = true) :
    Calls Try.prog 4 args W fun e W' => ∃ v, e = .returned v ∧ Rows.plainRowsSpec.post enc Try.prog Try.f4 false true false false W args v W' :=
  law_contract (C := C) (T := types) (tb := 4) names prims laid (by kernel_rfl) (by intro t ht; rw [show Try.f4.params.toList = [32, 22] by kernel_rfl] at ht; revert t; decide) rfl (fun ds hds => by
    rw [show Try.f4.params.size = 2 by kernel_rfl] at hds
    match ds, hds with
    | [x0, x1], _ => rfl) (by kernel_rfl) (by kernel_rfl) hval hW (fun vs hv hb => law4 vs (by
      rw [show Try.f4.params.toList = [32, 22] by kernel_rfl] at hv
      exact hv) (Nat.le_trans hb (small_of hk)))
set_option maxRecDepth 100000 in
theorem lifted4 (os : Os) (started : os.Started) (H : Type) (enc : TypeId × Value → H) (F : Stop.Interp) :
    ReturnsInHanded {} Try.checked os 4 .any ((Rows.OpenSpec.upto Rows.plainRowsSpec).pre6 enc Try.prog Try.f4 Rows.plainRowsUptoRow.domain false) (((Rows.OpenSpec.upto Rows.plainRowsSpec).at F).post enc Try.prog Try.f4 false true false false) := by
  refine returnsInHanded_of_cond (C := Try.checked) (s := Rows.OpenSpec.upto Rows.plainRowsSpec) (k := Rows.uptoSmall) rfl own started (by kernel_rfl) Try.func4
    (OpenSpec.witness (enc := enc) (C := Try.checked) (s := Rows.OpenSpec.upto Rows.plainRowsSpec) (k := Rows.uptoSmall) rfl false ⟨#[], #[.slice none 0 0, .slice none 0 0], []⟩ 8 (by kernel_rfl) (by kernel_rfl) (by kernel_rfl)
      (x := ([.nil, .nil], [], [])) (by kernel_rfl) rfl (by kernel_rfl)) ?_
  intro W base args ds gs before hval hW _ hk _
  exact contract4 H enc W base args ds gs before hval hW hk
theorem plainRows_holds : Rows.PlainRowsUptoSaid :=
  OpenClaim.holds_of_cond 4 Try.f4 rfl rfl rfl rfl rfl rfl rfl ⟨rfl, rfl, rfl, rfl, rfl⟩ rfl rfl rfl rfl rfl (by kernel_rfl) Try.func4 (by kernel_rfl)
    (of_decide_eq_true (by kernel_rfl)) (by unfold Func.isWrapper; first | (rw [if_pos (by decide +kernel)]; kernel_rfl) | (rw [if_neg (by decide +kernel)]; exact ⟨rfl, rfl⟩))
    (fun os started H enc _ F => lifted4 os started H enc F)

end Go.Proofs.Ythkmnomnfmjffaa

