/- What the functions answer, and the laws. -/
import Derived.Test.YtoaclbilkoeghaaDoorW
import Derived.OpenShut
import Derived.WalkKit
import Derived.ProofKit
import Derived.Deep.DeepHandedRow
import Derived.Lib.LaidTab
import Derived.Test.YtoaclbilkoeghaaDoorCards
import Derived.Test.YtoaclbilkoeghaaDoorTie

set_option linter.unusedVariables false

set_option linter.unusedSimpArgs false

set_option linter.unusedSectionVars false

open Go Go.Ev

set_option linter.unusedSimpArgs false

set_option linter.unusedVariables false

set_option maxHeartbeats 1000000

namespace Go.Proofs.YtoaclbilkoeghaaDoor
open X13 (Vl Rs pV pE vP vV IsE IsV argsOf eK eO eV fewN evalN opN cmpN rightN sameV inI numV trueN nullV knownN)

theorem ty3 {v : PV} (h : Typed Tryd.prog 3 v) : ∃ n, v = .int .i64 n ∧ inI n := by
  obtain ⟨d, hd⟩ := h.get
  obtain ⟨n, h1, h2⟩ := hd.int (k := .i64) (by kernel_rfl)
  exact ⟨n, h.cell (by kernel_rfl) h1, wf_i64 h2⟩
theorem wf_u8 {n : Int} (h : (Lit.int .u8 n).wf = true) : 0 ≤ n ∧ n ≤ 255 := by
  simpa [Lit.wf, IntKind.min, IntKind.max, IntKind.signed, IntKind.bits] using h
theorem fits_cell {v x : PV} (h : pvFits none v = true) (hx : v.cells = [x]) : v = x := by
  cases v <;> first | (cases h; done) | (simp [PV.cells] at hx; exact hx)
theorem byte_of {d : Nat} {x : PV} (h1 : pvFits none x = true) (h2 : TypedC Tryd.prog d 5 x.cells) : ∃ b, x = pvByte b := by
  obtain ⟨n, h3, h4⟩ := h2.int (k := .u8) (by kernel_rfl)
  obtain ⟨h5, h6⟩ := wf_u8 h4
  refine ⟨UInt8.ofNat n.toNat, ?_⟩
  rw [fits_cell h1 h3]
  unfold pvByte
  congr 1
  have : n.toNat < 256 := by omega
  simp [UInt8.toNat_ofNat', Nat.mod_eq_of_lt this]
  omega
theorem bytes_of : ∀ (xs : List PV), (∀ x ∈ xs, ∃ b, x = pvByte b) → ∃ l, xs = bb l
  | [], h => ⟨[], rfl⟩
  | x :: r, h => by
    obtain ⟨b, hb⟩ := h x (by simp)
    obtain ⟨l, hl⟩ := bytes_of r fun y hy => h y (by simp [hy])
    exact ⟨b :: l, by rw [hb, hl]; rfl⟩
theorem tc29 {d : Nat} {cs : List PV} (h : TypedC Tryd.prog d 29 cs) : ∃ l, cs = [.sl none (bb l)] := by
  obtain ⟨xs, h1, _, h2⟩ := h.slice (e := 5) (sh := none) (by kernel_rfl) (by kernel_rfl)
  obtain ⟨l, hl⟩ := bytes_of xs fun x hx => byte_of (h2 x hx).1 (h2 x hx).2
  exact ⟨l, by rw [h1, hl]⟩
theorem ty29 {v : PV} (h : Typed Tryd.prog 29 v) : ∃ l, v = .sl none (bb l) := by
  obtain ⟨d, hd⟩ := h.get
  obtain ⟨l, hl⟩ := tc29 hd
  exact ⟨l, h.cell (by kernel_rfl) hl⟩
theorem bulk_bb : ∀ (l : List UInt8), pvBulks (bb l) = l.length
  | [] => rfl
  | b :: r => by
    show pvBulk (pvByte b) + pvBulks (bb r) = _
    rw [bulk_bb r]
    simp [pvByte, pvBulk]; omega
theorem tc23 {d : Nat} {cs : List PV} (h : TypedC Tryd.prog d 23 cs) : ∃ k n t, cs = [.int .i64 k, .int .i64 n, .str t] ∧ inI k ∧ inI n ∧ t.length ≤ maxLen := by
  have hl : cs.length = 3 := (h.len (by kernel_rfl)).trans (by kernel_rfl)
  match cs, hl with
  | [x, y, z], _ =>
    obtain ⟨k, h1, h2⟩ := (h.field (i := 0) (ty := 3) (off := 0) (n := 1) (by kernel_rfl)).int (k := .i64) (by kernel_rfl)
    obtain ⟨n, h3, h4⟩ := (h.field (i := 1) (ty := 3) (off := 1) (n := 1) (by kernel_rfl)).int (k := .i64) (by kernel_rfl)
    obtain ⟨t, h5, h6⟩ := (h.field (i := 2) (ty := 9) (off := 2) (n := 1) (by kernel_rfl)).str (by kernel_rfl)
    simp at h1 h3 h5
    exact ⟨k, n, t, by rw [h1, h3, h5], wf_i64 h2, wf_i64 h4, h6⟩
theorem ty23 {v : PV} (h : Typed Tryd.prog 23 v) : ∃ k n t, v = .agg [.int .i64 k, .int .i64 n, .str t] ∧ inI k ∧ inI n ∧ t.length ≤ maxLen := by
  obtain ⟨d, hd⟩ := h.get
  obtain ⟨k, n, t, h1, h2⟩ := tc23 hd
  exact ⟨k, n, t, by rw [h.agg (n := 3) (by kernel_rfl), h1], h2⟩
theorem ty31 {v : PV} (h : Typed Tryd.prog 31 v) : ∃ s : Sp, v = .agg [.sl none (bb s.f), .sl none (bb s.t), .bool s.e] := by
  obtain ⟨d, hd⟩ := h.get
  have hl : v.cells.length = 3 := (hd.len (by kernel_rfl)).trans (by kernel_rfl)
  rw [h.agg (n := 3) (by kernel_rfl)]
  generalize v.cells = cs at hd hl
  match cs, hl with
  | [x, y, z], _ =>
    obtain ⟨f, h1⟩ := tc29 (hd.field (i := 0) (ty := 29) (off := 0) (n := 1) (by kernel_rfl))
    obtain ⟨t, h2⟩ := tc29 (hd.field (i := 1) (ty := 29) (off := 1) (n := 1) (by kernel_rfl))
    obtain ⟨e, h3⟩ := (hd.field (i := 2) (ty := 4) (off := 2) (n := 1) (by kernel_rfl)).bool (by kernel_rfl)
    simp at h1 h2 h3
    exact ⟨⟨f, t, e⟩, by rw [h1, h2, h3]⟩
theorem tcE : ∀ (d : Nat) (cs : List PV), TypedC Tryd.prog d 26 cs → IsE (.agg cs)
  | 0, cs, h => h.elim
  | d + 1, cs, h => by
    have hl : cs.length = 8 := (h.len (by kernel_rfl)).trans (by kernel_rfl)
    match cs, hl with
    | [x0, x1, x2, x3, x4, x5, x6, x7], _ =>
      obtain ⟨k, h0, _⟩ := (h.field (i := 0) (ty := 3) (off := 0) (n := 1) (by kernel_rfl)).int (k := .i64) (by kernel_rfl)
      obtain ⟨o, h1, _⟩ := (h.field (i := 1) (ty := 3) (off := 1) (n := 1) (by kernel_rfl)).int (k := .i64) (by kernel_rfl)
      obtain ⟨s1, h2, _⟩ := (h.field (i := 2) (ty := 9) (off := 2) (n := 1) (by kernel_rfl)).str (by kernel_rfl)
      obtain ⟨s2, h3, _⟩ := (h.field (i := 3) (ty := 9) (off := 3) (n := 1) (by kernel_rfl)).str (by kernel_rfl)
      obtain ⟨vk, vn, vt, h4, _, iv, _⟩ := tc23 (h.field (i := 4) (ty := 23) (off := 4) (n := 3) (by kernel_rfl))
      obtain ⟨gs, h5, _, h6⟩ := (h.field (i := 5) (ty := 24) (off := 7) (n := 1) (by kernel_rfl)).slice (e := 26) (sh := some 8) (by kernel_rfl) (by kernel_rfl)
      simp at h0 h1 h2 h3 h4 h5
      obtain ⟨h4, h4', h4''⟩ := h4
      subst h0 h1 h2 h3 h4 h4' h4'' h5
      refine .mk _ _ _ _ _ _ _ _ iv fun x hx => ?_
      obtain ⟨g1, g2⟩ := h6 x hx
      rw [fits_agg g1]
      exact tcE (d - 1) _ g2
termination_by d => d
decreasing_by omega
theorem ty26 {v : PV} (h : Typed Tryd.prog 26 v) : IsE v := by
  obtain ⟨d, hd⟩ := h.get
  rw [h.agg (n := 8) (by kernel_rfl)]
  exact tcE d _ hd
theorem ty49 {v : PV} (h : Typed Tryd.prog 49 v) : ∃ xs, v = .sl (some 3) xs ∧ ∀ x ∈ xs, IsV x := by
  obtain ⟨d, hd⟩ := h.get
  obtain ⟨xs, h1, _, h2⟩ := hd.slice (e := 23) (sh := some 3) (by kernel_rfl) (by kernel_rfl)
  refine ⟨xs, h.cell (by kernel_rfl) h1, fun x hx => ?_⟩
  obtain ⟨g1, g2⟩ := h2 x hx
  obtain ⟨k, n, t, g3, _, g4, _⟩ := tc23 g2
  exact ⟨k, n, t, by rw [fits_agg g1, g3], g4⟩
theorem law5 (vs : List PV) (h : TypedAll Tryd.prog [31, 31, 29] vs) (hb : pvBulks vs ≤ 1048576) : ∃ n outs, pcall C n 5 (vs.map fun v => .flat (.val v)) = some ([.flat (.val (.bool true))], outs) := by
  obtain ⟨v1, r, rfl, h1, h⟩ := h.cons_inv
  obtain ⟨v2, r, rfl, h2, h⟩ := h.cons_inv
  obtain ⟨v3, r, rfl, h3, h⟩ := h.cons_inv
  cases h.nil_inv
  obtain ⟨a, rfl⟩ := ty31 h1
  obtain ⟨b, rfl⟩ := ty31 h2
  obtain ⟨k, rfl⟩ := ty29 h3
  simp only [pvBulks, pvBulk, bulk_bb] at hb
  exact ⟨_, _, q5 0 a b k (by omega) (by omega) (by omega) (by omega)⟩
theorem law6 (vs : List PV) (h : TypedAll Tryd.prog [3, 23, 23] vs) : ∃ n outs, pcall C n 6 (vs.map fun v => .flat (.val v)) = some ([.flat (.val (.bool true))], outs) := by
  obtain ⟨v1, r, rfl, h1, h⟩ := h.cons_inv
  obtain ⟨v2, r, rfl, h2, h⟩ := h.cons_inv
  obtain ⟨v3, r, rfl, h3, h⟩ := h.cons_inv
  cases h.nil_inv
  obtain ⟨o, rfl, _⟩ := ty3 h1
  obtain ⟨k1, n1, t1, rfl, _, i1, _⟩ := ty23 h2
  obtain ⟨k2, n2, t2, rfl, _, i2, _⟩ := ty23 h3
  exact ⟨_, _, q6 0 o ⟨k1, n1, t1⟩ ⟨k2, n2, t2⟩ i1 i2⟩
theorem law7 (vs : List PV) (h : TypedAll Tryd.prog [26, 49, 3] vs) : ∃ n outs, pcall C n 7 (vs.map fun v => .flat (.val v)) = some ([.flat (.val (.bool true))], outs) := by
  obtain ⟨v1, r, rfl, h1, h⟩ := h.cons_inv
  obtain ⟨v2, r, rfl, h2, h⟩ := h.cons_inv
  obtain ⟨v3, r, rfl, h3, h⟩ := h.cons_inv
  cases h.nil_inv
  have e1 := ty26 h1
  obtain ⟨xs, rfl, e2⟩ := ty49 h2
  obtain ⟨c, rfl, _⟩ := ty3 h3
  exact ⟨_, _, q7 0 v1 xs c e1 e2⟩
end Go.Proofs.YtoaclbilkoeghaaDoor

open Go Go.Ev

set_option linter.unusedSimpArgs false

set_option linter.unusedVariables false

set_option maxHeartbeats 1000000

namespace Go.Proofs.YtoaclbilkoeghaaDoor

theorem law3 (vs : List PV) (h : TypedAll Tryd.prog [26, 3] vs) : ∃ n outs, pcall C n 3 (vs.map fun v => .flat (.val v)) = some ([.flat (.val (.bool true))], outs) := by
  obtain ⟨v1, r, rfl, h1, h⟩ := h.cons_inv
  obtain ⟨v2, r, rfl, h2, h⟩ := h.cons_inv
  cases h.nil_inv
  have e1 := ty26 h1
  obtain ⟨c, rfl, _⟩ := ty3 h2
  exact ⟨_, _, q3 0 v1 c e1⟩
theorem law4 (vs : List PV) (h : TypedAll Tryd.prog [31, 31] vs) (hb : pvBulks vs ≤ 1048576) : ∃ n outs, pcall C n 4 (vs.map fun v => .flat (.val v)) = some ([.flat (.val (.bool true))], outs) := by
  obtain ⟨v1, r, rfl, h1, h⟩ := h.cons_inv
  obtain ⟨v2, r, rfl, h2, h⟩ := h.cons_inv
  cases h.nil_inv
  obtain ⟨a, rfl⟩ := ty31 h1
  obtain ⟨b, rfl⟩ := ty31 h2
  simp only [pvBulks, pvBulk, bulk_bb] at hb
  exact ⟨_, _, q4 0 a b (by omega) (by omega) (by omega) (by omega)⟩
end Go.Proofs.YtoaclbilkoeghaaDoor

open Go Go.Ev

namespace Go.Proofs.YtoaclbilkoeghaaDoor
set_option maxHeartbeats 1000000
set_option maxRecDepth 100000

open Go.ChangeShapes Go.WideShapes Go.ChangeAt Go.RowKit

theorem own : ownKnob Tryd.prog.godebug = Option.none := by kernel_rfl
def types : List TypeId := [3, 4, 5, 9, 23, 24, 26, 29, 31, 49]
mutual
theorem upto1 {H : Type} (d : DataW H) : Rows.uptoBulk d = dBulk d := match d with
  | .lit l => by cases l <;> simp [Rows.uptoBulk, dBulk]
  | .nil => by simp [Rows.uptoBulk, dBulk]
  | .ptr d => by simp [Rows.uptoBulk, dBulk, upto1 d]
  | .slice es sp => by simp [Rows.uptoBulk, dBulk, uptoL es, uptoL sp]
  | .agg ps => by simp [Rows.uptoBulk, dBulk, uptoL ps]
  | .iface t d => by simp [Rows.uptoBulk, dBulk, upto1 d]
  | .map es => by simp [Rows.uptoBulk, dBulk, uptoEs es]
  | .held h => by simp [Rows.uptoBulk, dBulk]
theorem uptoL {H : Type} (ds : List (DataW H)) : Rows.uptoBulkAll ds = dBulks ds := match ds with
  | [] => by simp [Rows.uptoBulkAll, dBulks]
  | d :: r => by simp [Rows.uptoBulkAll, dBulks, upto1 d, uptoL r]
theorem uptoEs {H : Type} (ds : List (Lit × DataW H)) : Rows.uptoBulkEntries ds = dBulkEs ds := match ds with
  | [] => by simp [Rows.uptoBulkEntries, dBulkEs]
  | d :: r => by simp [Rows.uptoBulkEntries, dBulkEs, uptoE d, uptoEs r]
theorem uptoE {H : Type} (x : Lit × DataW H) : Rows.uptoBulkEntry x = dBulkE x := match x with
  | (l, d) => by cases l <;> simp [Rows.uptoBulkEntry, dBulkE, upto1 d]
end
theorem small_of {H : Type} {ds : List (DataW H)} (h : Rows.uptoSmall H ds = true) : dBulks ds ≤ 1048576 := by
  rw [← uptoL]
  exact of_decide_eq_true h

/-- A world in which the listed variables stand as the program's text lays them. -/
noncomputable def laidWorld (os : Os) : World :=
  { World.holding Tryd.prog os ⟨#[], #[], []⟩ with heap := (((World.holding Tryd.prog os ⟨#[], #[], []⟩).heap.modify 1 fun
      | .cells _ t fr => .cells ((Go.Pinned.utf8FirstZ.map fun (z : Nat) => Value.int .u8 (Int.ofNat z)).toArray) t fr
      | o => o).modify 2 fun
      | .cells _ t fr => .cells #[.int .u8 128, .int .u8 191, .int .u8 160, .int .u8 191, .int .u8 128, .int .u8 159, .int .u8 144, .int .u8 191, .int .u8 128, .int .u8 143, .int .u8 0, .int .u8 0, .int .u8 0, .int .u8 0, .int .u8 0, .int .u8 0, .int .u8 0, .int .u8 0, .int .u8 0, .int .u8 0, .int .u8 0, .int .u8 0, .int .u8 0, .int .u8 0, .int .u8 0, .int .u8 0, .int .u8 0, .int .u8 0, .int .u8 0, .int .u8 0, .int .u8 0, .int .u8 0] t fr
      | o => o) }
theorem contract3 (H : Type) (enc : TypeId × Value → H) (W : World) (base : Nat) (args : Array Value) (ds gs : List (DataW H)) (before : List MemPlace)
    (hval : ∀ (j : Nat) t v, Tryd.f3.params[j]? = some t → args[j]? = some v → Value.okWide Tryd.prog W .any base t v)
    (hW : DataW.Whole enc Tryd.prog Tryd.f3.params.toList Rows.planSpansSpec.vars false W args.toList ds gs before) :
    Calls Tryd.prog 3 args W fun e W' => ∃ v, e = .returned v ∧ Rows.planSpansSpec.post enc Tryd.prog Tryd.f3 false true false false W args v W' :=
  law_contract (C := C) (T := types) (tb := 4) names prims laid (by kernel_rfl) (by intro t ht; rw [show Tryd.f3.params.toList = [26, 3] by kernel_rfl] at ht; revert t; decide) rfl (fun ds hds => by
    rw [show Tryd.f3.params.size = 2 by kernel_rfl] at hds
    match ds, hds with
    | [x0, x1], _ => rfl) (by kernel_rfl) (by kernel_rfl) hval hW (fun vs hv _ => law3 vs (by
      rw [show Tryd.f3.params.toList = [26, 3] by kernel_rfl] at hv
      exact hv))
theorem laid_met3 (os : Os) : laidMet Tryd.prog Rows.planSpansRow.laid ((laidWorld os).forCall (fun _ _ => 0) ⟨#[], #[.agg #[.int .i64 0, .int .i64 0, .string ⟨#[]⟩, .string ⟨#[]⟩, .int .i64 0, .int .i64 0, .string ⟨#[]⟩, .slice none 0 0], .int .i64 0], []⟩).memory :=
  laidMet_of_run' 8 (by kernel_rfl) (by kernel_rfl)
theorem reads3 (os : Os) {H : Type} (enc : TypeId × Value → H) : ∃ places, DataW.whole enc Tryd.prog ((laidWorld os).forCall (fun _ _ => 0) ⟨#[], #[.agg #[.int .i64 0, .int .i64 0, .string ⟨#[]⟩, .string ⟨#[]⟩, .int .i64 0, .int .i64 0, .string ⟨#[]⟩, .slice none 0 0], .int .i64 0], []⟩).memory Tryd.f3.params.toList Rows.planSpansSpec.vars false #[.agg #[.int .i64 0, .int .i64 0, .string ⟨#[]⟩, .string ⟨#[]⟩, .int .i64 0, .int .i64 0, .string ⟨#[]⟩, .slice none 0 0], .int .i64 0].toList 8 = some ([.agg [.lit (.int .i64 0), .lit (.int .i64 0), .lit (.string []), .lit (.string []), .agg [.lit (.int .i64 0), .lit (.int .i64 0), .lit (.string [])], .nil], .lit (.int .i64 0)], [], places) :=
  ⟨[], by kernel_rfl⟩
set_option maxRecDepth 100000 in
theorem lifted3 (os : Os) (started : os.Started) (H : Type) (enc : TypeId × Value → H) (F : Stop.Interp) :
    ReturnsInHanded {} Tryd.checked os 3 .any ((OpenSpec.ofChange Rows.planSpansSpec).preRow enc Tryd.prog Tryd.f3 Rows.planSpansRow.domain false Rows.planSpansRow.laid) (((OpenSpec.ofChange Rows.planSpansSpec).at F).post enc Tryd.prog Tryd.f3 false true false false) := by
  obtain ⟨places, hx⟩ := reads3 os enc
  refine returnsInHanded_of_row (C := Tryd.checked) (s := OpenSpec.ofChange Rows.planSpansSpec) own started (by kernel_rfl) Tryd.func3
    (witness_row_at (enc := enc) (C := Tryd.checked) false (laidWorld os) #[.agg #[.int .i64 0, .int .i64 0, .string ⟨#[]⟩, .string ⟨#[]⟩, .int .i64 0, .int .i64 0, .string ⟨#[]⟩, .slice none 0 0], .int .i64 0] rfl (by kernel_rfl) (by kernel_rfl) (by kernel_rfl)
      (OpenSpec.preRow_of_cond 8 hx (by kernel_rfl) (fun k hk => by cases hk) (by kernel_rfl) (laid_met3 os))) ?_
  intro W base args ds gs before hval hW _ _ _ _ _ _
  exact contract3 H enc W base args ds gs before hval hW
theorem planSpans_said : Rows.PlanSpansSaid :=
  OpenClaim.holds_of_cond 3 Tryd.f3 rfl rfl rfl rfl rfl rfl rfl ⟨rfl, rfl, rfl, rfl, rfl⟩ rfl rfl rfl rfl rfl (by kernel_rfl) Tryd.func3 (by kernel_rfl)
    (of_decide_eq_true (by kernel_rfl)) (by unfold Func.isWrapper; first | (rw [if_pos (by decide +kernel)]; kernel_rfl) | (rw [if_neg (by decide +kernel)]; exact ⟨rfl, rfl⟩))
    (fun os started H enc _ F => by rw [OpenClaim.pre_eq_preRow]; exact lifted3 os started H enc F)
theorem wants3_3 : Tryd.prog.wantsStandIn 3 = false := by kernel_rfl
theorem wants3_26 : Tryd.prog.wantsStandIn 26 = false := by kernel_rfl
theorem plain3 (f : FuncId) (fn : Func) (hf : Tryd.pinned.checked.prog.funcNamed "vestry/vestrylaw15.PlanSpans" = some f) (hfn : Tryd.pinned.checked.prog.funcs[f]? = some fn) :
    false = Tryd.pinned.checked.prog.looks [] ∧ ∀ (j : Nat) t, fn.params[j]? = some t → Tryd.pinned.checked.prog.wantsStandIn t = false := by
  obtain rfl : f = 3 := Option.some.inj ((show Tryd.prog.funcNamed "vestry/vestrylaw15.PlanSpans" = some 3 by kernel_rfl).symm.trans hf) |>.symm
  obtain rfl : fn = Tryd.f3 := (Option.some.inj (Tryd.func3.symm.trans hfn)).symm
  refine ⟨by kernel_rfl, fun j t ht => ?_⟩
  rw [show Tryd.f3.params = #[26, 3] by kernel_rfl] at ht
  have hm := Array.mem_of_getElem? ht
  simp at hm
  have hall : t ∈ [26, 3] := by simpa using hm
  clear hm ht
  simp only [List.mem_cons, List.not_mem_nil, or_false] at hall
  rcases hall with rfl | rfl
  all_goals first | exact wants3_3 | exact wants3_26
/-- The card. -/
theorem planSpans_holds : Rows.PlanSpansCardSaid :=
  Claim7.holds_tied_plain_at .later [] _ _ _ _ planSpans_said (fun _ h => by cases h) (by kernel_rfl) (fun _ h => by cases h) planSpans_row_tie rfl ⟨rfl, rfl⟩ (by kernel_rfl) rfl plain3 (by kernel_rfl)

theorem contract4 (H : Type) (enc : TypeId × Value → H) (W : World) (base : Nat) (args : Array Value) (ds gs : List (DataW H)) (before : List MemPlace)
    (hval : ∀ (j : Nat) t v, Tryd.f4.params[j]? = some t → args[j]? = some v → Value.okWide Tryd.prog W .any base t v)
    (hW : DataW.Whole enc Tryd.prog Tryd.f4.params.toList Rows.planMeetsSpec.vars false W args.toList ds gs before) (hk : Rows.uptoSmall H (ds ++ gs) = true) :
    Calls Tryd.prog 4 args W fun e W' => ∃ v, e = .returned v ∧ Rows.planMeetsSpec.post enc Tryd.prog Tryd.f4 false true false false W args v W' :=
  law_contract (C := C) (T := types) (tb := 4) names prims laid (by kernel_rfl) (by intro t ht; rw [show Tryd.f4.params.toList = [31, 31] by kernel_rfl] at ht; revert t; decide) rfl (fun ds hds => by
    rw [show Tryd.f4.params.size = 2 by kernel_rfl] at hds
    match ds, hds with
    | [x0, x1], _ => rfl) (by kernel_rfl) (by kernel_rfl) hval hW (fun vs hv hb => law4 vs (by
      rw [show Tryd.f4.params.toList = [31, 31] by kernel_rfl] at hv
      exact hv) (Nat.le_trans hb (small_of hk)))
theorem laid_met4 (os : Os) : laidMet Tryd.prog Rows.planMeetsUptoRow.laid ((laidWorld os).forCall (fun _ _ => 0) ⟨#[], #[.agg #[.slice none 0 0, .slice none 0 0, .bool false], .agg #[.slice none 0 0, .slice none 0 0, .bool false]], []⟩).memory :=
  laidMet_of_run' 8 (by kernel_rfl) (by kernel_rfl)
theorem reads4 (os : Os) {H : Type} (enc : TypeId × Value → H) : ∃ places, DataW.whole enc Tryd.prog ((laidWorld os).forCall (fun _ _ => 0) ⟨#[], #[.agg #[.slice none 0 0, .slice none 0 0, .bool false], .agg #[.slice none 0 0, .slice none 0 0, .bool false]], []⟩).memory Tryd.f4.params.toList Rows.planMeetsSpec.vars false #[.agg #[.slice none 0 0, .slice none 0 0, .bool false], .agg #[.slice none 0 0, .slice none 0 0, .bool false]].toList 8 = some ([.agg [.nil, .nil, .lit (.bool false)], .agg [.nil, .nil, .lit (.bool false)]], [], places) :=
  ⟨[], by kernel_rfl⟩
set_option maxRecDepth 100000 in
theorem lifted4 (os : Os) (started : os.Started) (H : Type) (enc : TypeId × Value → H) (F : Stop.Interp) :
    ReturnsInHanded {} Tryd.checked os 4 .any ((Rows.OpenSpec.upto Rows.planMeetsSpec).preRow enc Tryd.prog Tryd.f4 Rows.planMeetsUptoRow.domain false Rows.planMeetsUptoRow.laid) (((Rows.OpenSpec.upto Rows.planMeetsSpec).at F).post enc Tryd.prog Tryd.f4 false true false false) := by
  obtain ⟨places, hx⟩ := reads4 os enc
  refine returnsInHanded_of_row (C := Tryd.checked) (s := Rows.OpenSpec.upto Rows.planMeetsSpec) own started (by kernel_rfl) Tryd.func4
    (witness_row_at (enc := enc) (C := Tryd.checked) false (laidWorld os) #[.agg #[.slice none 0 0, .slice none 0 0, .bool false], .agg #[.slice none 0 0, .slice none 0 0, .bool false]] rfl (by kernel_rfl) (by kernel_rfl) (by kernel_rfl)
      (OpenSpec.preRow_of_cond 8 hx (by kernel_rfl) (fun k hk => by cases hk; kernel_rfl) (by kernel_rfl) (laid_met4 os))) ?_
  intro W base args ds gs before hval hW _ hcond _ _ _ _
  exact contract4 H enc W base args ds gs before hval hW (hcond _ rfl)
theorem planMeets_said : Rows.PlanMeetsUptoSaid :=
  OpenClaim.holds_of_cond 4 Tryd.f4 rfl rfl rfl rfl rfl rfl rfl ⟨rfl, rfl, rfl, rfl, rfl⟩ rfl rfl rfl rfl rfl (by kernel_rfl) Tryd.func4 (by kernel_rfl)
    (of_decide_eq_true (by kernel_rfl)) (by unfold Func.isWrapper; first | (rw [if_pos (by decide +kernel)]; kernel_rfl) | (rw [if_neg (by decide +kernel)]; exact ⟨rfl, rfl⟩))
    (fun os started H enc _ F => by rw [OpenClaim.pre_eq_preRow]; exact lifted4 os started H enc F)
theorem wants4_31 : Tryd.prog.wantsStandIn 31 = false := by kernel_rfl
theorem plain4 (f : FuncId) (fn : Func) (hf : Tryd.pinned.checked.prog.funcNamed "vestry/vestrylaw15.PlanMeets" = some f) (hfn : Tryd.pinned.checked.prog.funcs[f]? = some fn) :
    false = Tryd.pinned.checked.prog.looks [] ∧ ∀ (j : Nat) t, fn.params[j]? = some t → Tryd.pinned.checked.prog.wantsStandIn t = false := by
  obtain rfl : f = 4 := Option.some.inj ((show Tryd.prog.funcNamed "vestry/vestrylaw15.PlanMeets" = some 4 by kernel_rfl).symm.trans hf) |>.symm
  obtain rfl : fn = Tryd.f4 := (Option.some.inj (Tryd.func4.symm.trans hfn)).symm
  refine ⟨by kernel_rfl, fun j t ht => ?_⟩
  rw [show Tryd.f4.params = #[31, 31] by kernel_rfl] at ht
  have hm := Array.mem_of_getElem? ht
  simp at hm
  have hall : t ∈ [31, 31] := by simpa using hm
  clear hm ht
  simp only [List.mem_cons, List.not_mem_nil, or_false] at hall
  rcases hall with rfl | rfl
  all_goals first | exact wants4_31
/-- The card. -/
theorem planMeets_holds : Rows.PlanMeetsUptoCardSaid :=
  Claim7.holds_tied_plain_at .later [] _ _ _ _ planMeets_said (fun _ h => by cases h) (by kernel_rfl) (fun _ h => by cases h) planMeetsUpto_row_tie rfl ⟨rfl, rfl⟩ (by kernel_rfl) rfl plain4 (by kernel_rfl)

end Go.Proofs.YtoaclbilkoeghaaDoor

