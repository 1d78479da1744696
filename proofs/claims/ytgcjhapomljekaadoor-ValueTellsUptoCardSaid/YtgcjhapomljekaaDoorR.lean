/- What the functions answer, and the laws. -/
import Derived.Test.YtgcjhapomljekaaDoorQ
import Derived.OpenShut
import Derived.WalkKit
import Derived.ProofKit
import Derived.Deep.DeepHandedRow
import Derived.Lib.LaidTab
import Derived.Test.YtgcjhapomljekaaDoorCards
import Derived.Test.YtgcjhapomljekaaDoorTie
import Derived.Stop.LaidErr
import Derived.MakeChecks

set_option linter.unusedVariables false

set_option linter.unusedSimpArgs false

set_option linter.unusedSectionVars false

open Go Go.Ev

set_option linter.unusedSimpArgs false

set_option linter.unusedVariables false

set_option maxHeartbeats 1000000

namespace Go.Proofs.YtgcjhapomljekaaDoor
open X13 (Vl Rs vV cmpN rightN sameV inI numV nullV knownN)

theorem ty3 {v : PV} (h : Typed Tryd.prog 3 v) : ∃ n, v = .int .i64 n ∧ inI n := by
  obtain ⟨d, hd⟩ := h.get
  obtain ⟨n, h1, h2⟩ := hd.int (k := .i64) (by kernel_rfl)
  exact ⟨n, h.cell (by kernel_rfl) h1, wf_i64 h2⟩
theorem wf_u8 {n : Int} (h : (Lit.int .u8 n).wf = true) : 0 ≤ n ∧ n ≤ 255 := by
  simpa [Lit.wf, IntKind.min, IntKind.max, IntKind.signed, IntKind.bits] using h
theorem fits_cell {v x : PV} (h : pvFits none v = true) (hx : v.cells = [x]) : v = x := by
  cases v <;> first | (cases h; done) | (simp [PV.cells] at hx; exact hx)
theorem byte_of {d : Nat} {x : PV} (h1 : pvFits none x = true) (h2 : TypedC Tryd.prog d 5 x.cells) : ∃ b, x = pvByte b := by
  obtain ⟨n, h3, h4⟩ := h2.int (k := .u8) (by kernel_rfl)
  obtain ⟨h5, h6⟩ := wf_u8 h4
  refine ⟨UInt8.ofNat n.toNat, ?_⟩
  rw [fits_cell h1 h3]
  unfold pvByte
  congr 1
  have : n.toNat < 256 := by omega
  simp [UInt8.toNat_ofNat', Nat.mod_eq_of_lt this]
  omega
theorem bytes_of : ∀ (xs : List PV), (∀ x ∈ xs, ∃ b, x = pvByte b) → ∃ l, xs = bb l
  | [], h => ⟨[], rfl⟩
  | x :: r, h => by
    obtain ⟨b, hb⟩ := h x (by simp)
    obtain ⟨l, hl⟩ := bytes_of r fun y hy => h y (by simp [hy])
    exact ⟨b :: l, by rw [hb, hl]; rfl⟩
theorem tc30 {d : Nat} {cs : List PV} (h : TypedC Tryd.prog d 30 cs) : ∃ l, cs = [.sl none (bb l)] := by
  obtain ⟨xs, h1, _, h2⟩ := h.slice (e := 5) (sh := none) (by kernel_rfl) (by kernel_rfl)
  obtain ⟨l, hl⟩ := bytes_of xs fun x hx => byte_of (h2 x hx).1 (h2 x hx).2
  exact ⟨l, by rw [h1, hl]⟩
theorem ty30 {v : PV} (h : Typed Tryd.prog 30 v) : ∃ l, v = .sl none (bb l) := by
  obtain ⟨d, hd⟩ := h.get
  obtain ⟨l, hl⟩ := tc30 hd
  exact ⟨l, h.cell (by kernel_rfl) hl⟩
theorem bulk_bb : ∀ (l : List UInt8), pvBulks (bb l) = l.length
  | [] => rfl
  | b :: r => by
    show pvBulk (pvByte b) + pvBulks (bb r) = _
    rw [bulk_bb r]
    simp [pvByte, pvBulk]; omega
theorem tc23 {d : Nat} {cs : List PV} (h : TypedC Tryd.prog d 23 cs) : ∃ k n t, cs = [.int .i64 k, .int .i64 n, .str t] ∧ inI k ∧ inI n ∧ t.length ≤ maxLen := by
  have hl : cs.length = 3 := (h.len (by kernel_rfl)).trans (by kernel_rfl)
  match cs, hl with
  | [x, y, z], _ =>
    obtain ⟨k, h1, h2⟩ := (h.field (i := 0) (ty := 3) (off := 0) (n := 1) (by kernel_rfl)).int (k := .i64) (by kernel_rfl)
    obtain ⟨n, h3, h4⟩ := (h.field (i := 1) (ty := 3) (off := 1) (n := 1) (by kernel_rfl)).int (k := .i64) (by kernel_rfl)
    obtain ⟨t, h5, h6⟩ := (h.field (i := 2) (ty := 9) (off := 2) (n := 1) (by kernel_rfl)).str (by kernel_rfl)
    simp at h1 h3 h5
    exact ⟨k, n, t, by rw [h1, h3, h5], wf_i64 h2, wf_i64 h4, h6⟩
theorem ty23 {v : PV} (h : Typed Tryd.prog 23 v) : ∃ k n t, v = .agg [.int .i64 k, .int .i64 n, .str t] ∧ inI k ∧ inI n ∧ t.length ≤ maxLen := by
  obtain ⟨d, hd⟩ := h.get
  obtain ⟨k, n, t, h1, h2⟩ := tc23 hd
  exact ⟨k, n, t, by rw [h.agg (n := 3) (by kernel_rfl), h1], h2⟩
theorem ty9 {v : PV} (h : Typed Tryd.prog 9 v) : ∃ s, v = .str s := by
  obtain ⟨d, hd⟩ := h.get
  obtain ⟨s, h1, _⟩ := hd.str (by kernel_rfl)
  exact ⟨s, h.cell (by kernel_rfl) h1⟩
theorem vals_of : ∀ (xs : List PV), (∀ x ∈ xs, ∃ v : Vl, x = pVl v ∧ inI v.n) → ∃ vs : List Vl, xs = rowV vs ∧ ∀ v ∈ vs, inI v.n
  | [], h => ⟨[], rfl, by simp⟩
  | x :: r, h => by
    obtain ⟨b, hb, hi⟩ := h x (by simp)
    obtain ⟨l, hl, hj⟩ := vals_of r fun y hy => h y (by simp [hy])
    refine ⟨b :: l, by rw [hb, hl]; rfl, fun v hv => ?_⟩
    rcases List.mem_cons.1 hv with rfl | hv
    · exact hi
    · exact hj v hv
theorem ty40 {v : PV} (h : Typed Tryd.prog 40 v) : ∃ vs : List Vl, v = .sl (some 3) (rowV vs) ∧ ∀ v ∈ vs, inI v.n := by
  obtain ⟨d, hd⟩ := h.get
  obtain ⟨xs, h1, _, h2⟩ := hd.slice (e := 23) (sh := some 3) (by kernel_rfl) (by kernel_rfl)
  obtain ⟨vs, hv, hi⟩ := vals_of xs fun x hx => by
    obtain ⟨g1, g2⟩ := h2 x hx
    obtain ⟨k, n, t, g3, _, g4, _⟩ := tc23 g2
    exact ⟨⟨k, n, t⟩, by rw [fits_agg g1, g3]; rfl, g4⟩
  exact ⟨vs, by rw [h.cell (by kernel_rfl) h1, hv], hi⟩
theorem bulk_row : ∀ (vs : List Vl), vs.length ≤ pvBulks (rowV vs)
  | [] => Nat.zero_le _
  | v :: r => by
    show r.length + 1 ≤ pvBulk (pVl v) + pvBulks (rowV r)
    have := bulk_row r
    simp only [pVl, pvBulk, pvBulks]
    omega
theorem law4 (vs : List PV) (h : TypedAll Tryd.prog [23, 30] vs) (hb : pvBulks vs ≤ 1048576) : ∃ n outs, pcall C n 4 (vs.map fun v => .flat (.val v)) = some ([.flat (.val (.bool true))], outs) := by
  obtain ⟨v1, r, rfl, h1, h⟩ := h.cons_inv
  obtain ⟨v2, r, rfl, h2, h⟩ := h.cons_inv
  cases h.nil_inv
  obtain ⟨k1, n1, t1, rfl, _, i1, _⟩ := ty23 h1
  obtain ⟨b, rfl⟩ := ty30 h2
  simp only [pvBulks, pvBulk, bulk_bb] at hb
  exact ⟨_, _, q4 (b.length + 300) ⟨k1, n1, t1⟩ b (Nat.le_refl _) (by omega)⟩
theorem law5 (vs : List PV) (h : TypedAll Tryd.prog [40, 30] vs) (hb : pvBulks vs ≤ 1048576) : ∃ n outs, pcall C n 5 (vs.map fun v => .flat (.val v)) = some ([.flat (.val (.bool true))], outs) := by
  obtain ⟨v1, r, rfl, h1, h⟩ := h.cons_inv
  obtain ⟨v2, r, rfl, h2, h⟩ := h.cons_inv
  cases h.nil_inv
  obtain ⟨ws, rfl, _⟩ := ty40 h1
  obtain ⟨b, rfl⟩ := ty30 h2
  have lw := bulk_row ws
  simp only [pvBulks, pvBulk, bulk_bb] at hb
  exact ⟨_, _, q5 (ws.length + b.length + 500) ws b (Nat.le_refl _) (by omega) (by omega)⟩
theorem law6 (vs : List PV) (h : TypedAll Tryd.prog [23, 23, 30, 30] vs) : ∃ n outs, pcall C n 6 (vs.map fun v => .flat (.val v)) = some ([.flat (.val (.bool true))], outs) := by
  obtain ⟨v1, r, rfl, h1, h⟩ := h.cons_inv
  obtain ⟨v2, r, rfl, h2, h⟩ := h.cons_inv
  obtain ⟨v3, r, rfl, h3, h⟩ := h.cons_inv
  obtain ⟨v4, r, rfl, h4, h⟩ := h.cons_inv
  cases h.nil_inv
  obtain ⟨k1, n1, t1, rfl, _, i1, _⟩ := ty23 h1
  obtain ⟨k2, n2, t2, rfl, _, i2, _⟩ := ty23 h2
  obtain ⟨p, rfl⟩ := ty30 h3
  obtain ⟨q, rfl⟩ := ty30 h4
  exact ⟨_, _, q6 0 ⟨k1, n1, t1⟩ ⟨k2, n2, t2⟩ p q i1 i2⟩
theorem law7 (vs : List PV) (h : TypedAll Tryd.prog [40, 30] vs) (hb : pvBulks vs ≤ 1048576) : ∃ n outs, pcall C n 7 (vs.map fun v => .flat (.val v)) = some ([.flat (.val (.bool true))], outs) := by
  obtain ⟨v1, r, rfl, h1, h⟩ := h.cons_inv
  obtain ⟨v2, r, rfl, h2, h⟩ := h.cons_inv
  cases h.nil_inv
  obtain ⟨ws, rfl, hi⟩ := ty40 h1
  obtain ⟨b, rfl⟩ := ty30 h2
  have lw := bulk_row ws
  simp only [pvBulks, pvBulk, bulk_bb] at hb
  exact ⟨_, _, q7 (ws.length + b.length + 3000) ws b (Nat.le_refl _) (by omega) (by omega) hi⟩
theorem law8 (vs : List PV) (h : TypedAll Tryd.prog [23, 23, 23] vs) : ∃ n outs, pcall C n 8 (vs.map fun v => .flat (.val v)) = some ([.flat (.val (.bool true))], outs) := by
  obtain ⟨v1, r, rfl, h1, h⟩ := h.cons_inv
  obtain ⟨v2, r, rfl, h2, h⟩ := h.cons_inv
  obtain ⟨v3, r, rfl, h3, h⟩ := h.cons_inv
  cases h.nil_inv
  obtain ⟨k1, n1, t1, rfl, _⟩ := ty23 h1
  obtain ⟨k2, n2, t2, rfl, _⟩ := ty23 h2
  obtain ⟨k3, n3, t3, rfl, _⟩ := ty23 h3
  exact ⟨_, _, q8 0 ⟨k1, n1, t1⟩ ⟨k2, n2, t2⟩ ⟨k3, n3, t3⟩⟩
theorem law9 (vs : List PV) (h : TypedAll Tryd.prog [3, 9] vs) : ∃ n outs, pcall C n 9 (vs.map fun v => .flat (.val v)) = some ([.flat (.val (.bool true))], outs) := by
  obtain ⟨v1, r, rfl, h1, h⟩ := h.cons_inv
  obtain ⟨v2, r, rfl, h2, h⟩ := h.cons_inv
  cases h.nil_inv
  obtain ⟨x, rfl, _⟩ := ty3 h1
  obtain ⟨s, rfl⟩ := ty9 h2
  exact ⟨_, _, q9 0 x s⟩
end Go.Proofs.YtgcjhapomljekaaDoor

open Go Go.Ev

namespace Go.Proofs.YtgcjhapomljekaaDoor
set_option maxHeartbeats 1000000
set_option maxRecDepth 100000

open Go.ChangeShapes Go.WideShapes Go.ChangeAt Go.RowKit

theorem own : ownKnob Tryd.prog.godebug = Option.none := by kernel_rfl
def types : List TypeId := [3, 5, 9, 23, 30, 40]
mutual
theorem upto1 {H : Type} (d : DataW H) : Rows.uptoBulk d = dBulk d := match d with
  | .lit l => by cases l <;> simp [Rows.uptoBulk, dBulk]
  | .nil => by simp [Rows.uptoBulk, dBulk]
  | .ptr d => by simp [Rows.uptoBulk, dBulk, upto1 d]
  | .slice es sp => by simp [Rows.uptoBulk, dBulk, uptoL es, uptoL sp]
  | .agg ps => by simp [Rows.uptoBulk, dBulk, uptoL ps]
  | .iface t d => by simp [Rows.uptoBulk, dBulk, upto1 d]
  | .map es => by simp [Rows.uptoBulk, dBulk, uptoEs es]
  | .held h => by simp [Rows.uptoBulk, dBulk]
theorem uptoL {H : Type} (ds : List (DataW H)) : Rows.uptoBulkAll ds = dBulks ds := match ds with
  | [] => by simp [Rows.uptoBulkAll, dBulks]
  | d :: r => by simp [Rows.uptoBulkAll, dBulks, upto1 d, uptoL r]
theorem uptoEs {H : Type} (ds : List (Lit × DataW H)) : Rows.uptoBulkEntries ds = dBulkEs ds := match ds with
  | [] => by simp [Rows.uptoBulkEntries, dBulkEs]
  | d :: r => by simp [Rows.uptoBulkEntries, dBulkEs, uptoE d, uptoEs r]
theorem uptoE {H : Type} (x : Lit × DataW H) : Rows.uptoBulkEntry x = dBulkE x := match x with
  | (l, d) => by cases l <;> simp [Rows.uptoBulkEntry, dBulkE, upto1 d]
end
theorem small_of {H : Type} {ds : List (DataW H)} (h : Rows.uptoSmall H ds = true) : dBulks ds ≤ 1048576 := by
  rw [← uptoL]
  exact of_decide_eq_true h

/-- A world in which the listed variables stand as the program's text lays them. -/
noncomputable def laidWorld (os : Os) : World :=
  { World.holding Tryd.prog os ⟨#[], #[], []⟩ with heap := ((((((World.holding Tryd.prog os ⟨#[], #[], []⟩).heap.modify 1 fun
      | .cells _ t fr => .cells #[.int .u64 1, .int .u64 10, .int .u64 100, .int .u64 1000, .int .u64 10000, .int .u64 100000, .int .u64 1000000, .int .u64 10000000, .int .u64 100000000, .int .u64 1000000000, .int .u64 10000000000, .int .u64 100000000000, .int .u64 1000000000000, .int .u64 10000000000000, .int .u64 100000000000000, .int .u64 1000000000000000, .int .u64 10000000000000000, .int .u64 100000000000000000, .int .u64 1000000000000000000, .int .u64 10000000000000000000] t fr
      | o => o).modify 2 fun
      | .cells _ t fr => .cells ((Go.Pinned.utf8FirstZ.map fun (z : Nat) => Value.int .u8 (Int.ofNat z)).toArray) t fr
      | o => o).modify 3 fun
      | .cells _ t fr => .cells #[.int .u8 128, .int .u8 191, .int .u8 160, .int .u8 191, .int .u8 128, .int .u8 159, .int .u8 144, .int .u8 191, .int .u8 128, .int .u8 143, .int .u8 0, .int .u8 0, .int .u8 0, .int .u8 0, .int .u8 0, .int .u8 0, .int .u8 0, .int .u8 0, .int .u8 0, .int .u8 0, .int .u8 0, .int .u8 0, .int .u8 0, .int .u8 0, .int .u8 0, .int .u8 0, .int .u8 0, .int .u8 0, .int .u8 0, .int .u8 0, .int .u8 0, .int .u8 0] t fr
      | o => o).modify 4 fun
      | .cells _ t fr => .cells #[.int .u8 0, .int .u8 1, .int .u8 28, .int .u8 2, .int .u8 29, .int .u8 14, .int .u8 24, .int .u8 3, .int .u8 30, .int .u8 22, .int .u8 20, .int .u8 15, .int .u8 25, .int .u8 17, .int .u8 4, .int .u8 8, .int .u8 31, .int .u8 27, .int .u8 13, .int .u8 23, .int .u8 21, .int .u8 19, .int .u8 16, .int .u8 7, .int .u8 26, .int .u8 12, .int .u8 18, .int .u8 6, .int .u8 11, .int .u8 5, .int .u8 10, .int .u8 9] t fr
      | o => o).modify 5 fun
      | .cells _ t fr => .cells #[.int .u8 0, .int .u8 1, .int .u8 56, .int .u8 2, .int .u8 57, .int .u8 49, .int .u8 28, .int .u8 3, .int .u8 61, .int .u8 58, .int .u8 42, .int .u8 50, .int .u8 38, .int .u8 29, .int .u8 17, .int .u8 4, .int .u8 62, .int .u8 47, .int .u8 59, .int .u8 36, .int .u8 45, .int .u8 43, .int .u8 51, .int .u8 22, .int .u8 53, .int .u8 39, .int .u8 33, .int .u8 30, .int .u8 24, .int .u8 18, .int .u8 12, .int .u8 5, .int .u8 63, .int .u8 55, .int .u8 48, .int .u8 27, .int .u8 60, .int .u8 41, .int .u8 37, .int .u8 16, .int .u8 46, .int .u8 35, .int .u8 44, .int .u8 21, .int .u8 52, .int .u8 32, .int .u8 23, .int .u8 11, .int .u8 54, .int .u8 26, .int .u8 40, .int .u8 15, .int .u8 34, .int .u8 20, .int .u8 31, .int .u8 10, .int .u8 25, .int .u8 14, .int .u8 19, .int .u8 9, .int .u8 13, .int .u8 8, .int .u8 7, .int .u8 6] t fr
      | o => o) }
end Go.Proofs.YtgcjhapomljekaaDoor

open Go Go.Ev

namespace Go.Proofs.YtgcjhapomljekaaDoor
set_option maxHeartbeats 1000000
set_option maxRecDepth 100000

open Go.ChangeShapes Go.WideShapes Go.ChangeAt Go.RowKit
open X13 (Vl inI)

theorem rep_VV {w : World} {O : Nat → Prop} {v : Vl} {u : Value} (h : RepV w O (pVl v) u) : u = VV v := by
  unfold pVl at h
  generalize hp : (PV.agg [PV.int IntKind.i64 v.k, PV.int IntKind.i64 v.n, PV.str v.t]) = p at h
  cases h with
  | agg cs vs us hl hk hm hr =>
    cases hp
    have h0 := hm 0 _ rfl
    have h1 := hm 1 _ rfl
    have h2 := hm 2 _ rfl
    have r0 := (hr 0 _ rfl).int_inv
    have r1 := (hr 1 _ rfl).int_inv
    obtain ⟨b, r2, r3⟩ := (hr 2 _ rfl).str_inv
    have hs : vs.size = 3 := hl
    have hv : vs = #[us 0, us 1, us 2] := by
      apply Array.ext
      · simpa using hs
      · intro i h3 h4
        match i, h3, h4 with
        | 0, _, _ => rw [Array.getElem?_eq_getElem (by omega)] at h0; exact Option.some.inj h0
        | 1, _, _ => rw [Array.getElem?_eq_getElem (by omega)] at h1; exact Option.some.inj h1
        | 2, _, _ => rw [Array.getElem?_eq_getElem (by omega)] at h2; exact Option.some.inj h2
        | n + 3, _, h4 => simp at h4; omega
    rw [hv, r0, r1, r2]
    unfold VV
    rw [show b = ⟨v.t.toArray⟩ by rw [← r3]]
  | _ => cases hp
theorem law3 (W : World) (args : Array Value) (htab : Lib.TabIs Tryd.prog W "internal/strconv.uint64pow10" .u64 Lib.pow10Tab) (vs : List PV) (h : TypedAll Tryd.prog [23, 23] vs) (hlen : vs.length = args.toList.length)
    (hrep : ∀ (j : Nat) v u, vs[j]? = some v → args.toList[j]? = some u → RepV W (fun _ => False) v u) (hb : pvBulks vs ≤ 1048576) : Calls Tryd.prog 3 args W fun e w' => e = .returned (.bool true) ∧ Quiet W w' := by
  obtain ⟨v1, r, rfl, h1, h⟩ := h.cons_inv
  obtain ⟨v2, r, rfl, h2, h⟩ := h.cons_inv
  cases h.nil_inv
  obtain ⟨k1, n1, t1, rfl, _, i1, _⟩ := ty23 h1
  obtain ⟨k2, n2, t2, rfl, _, i2, _⟩ := ty23 h2
  simp only [pvBulks, pvBulk] at hb
  have hargs : args = #[VV ⟨k1, n1, t1⟩, VV ⟨k2, n2, t2⟩] := by
    obtain ⟨l⟩ := args
    match l, hlen with
    | [x, y], _ =>
      have e1 := rep_VV (v := ⟨k1, n1, t1⟩) (hrep 0 _ x rfl rfl)
      have e2 := rep_VV (v := ⟨k2, n2, t2⟩) (hrep 1 _ y rfl rfl)
      rw [e1, e2]
  rw [hargs]
  exact tells_walk ⟨k1, n1, t1⟩ ⟨k2, n2, t2⟩ W i1 (by show t1.length ≤ _; omega) htab
theorem contract3 (H : Type) (enc : TypeId × Value → H) (W : World) (base : Nat) (args : Array Value) (ds gs : List (DataW H)) (before : List MemPlace)
    (hval : ∀ (j : Nat) t v, Tryd.f3.params[j]? = some t → args[j]? = some v → Value.okWide Tryd.prog W .any base t v)
    (hW : DataW.Whole enc Tryd.prog Tryd.f3.params.toList Rows.valueTellsSpec.vars false W args.toList ds gs before) (hk : Rows.uptoSmall H (ds ++ gs) = true) (hlaid : laidMetH Tryd.prog Rows.valueTellsUptoRow.laid W) :
    Calls Tryd.prog 3 args W fun e W' => ∃ v, e = .returned v ∧ Rows.valueTellsSpec.post enc Tryd.prog Tryd.f3 false true false false W args v W' := by
  have hl1 : laidMet Tryd.prog Rows.valueTellsUptoRow.laid W := by
    have e := MakeChecks.laidMetH_plain Tryd.prog Rows.valueTellsUptoRow.laid W (by kernel_rfl)
    rw [e] at hlaid; exact hlaid
  have hl2 := laidMet.tail (laidMet.tail hl1)
  have htab : Lib.TabIs Tryd.prog W "internal/strconv.uint64pow10" .u64 Lib.pow10Tab := Lib.tabIs_of_head (g := 1) (t := 99) (e := 87) (n := 20) (by kernel_rfl) (by kernel_rfl) (by kernel_rfl) (by kernel_rfl) (by kernel_rfl) (by kernel_rfl) hl2
  exact law_direct (T := types) (tb := 4) laid (by kernel_rfl) (by intro t ht; rw [show Tryd.f3.params.toList = [23, 23] by kernel_rfl] at ht; revert t; decide) rfl (fun ds hds => by
    rw [show Tryd.f3.params.size = 2 by kernel_rfl] at hds
    match ds, hds with
    | [x0, x1], _ => rfl) (by kernel_rfl) (by kernel_rfl) hval hW (fun vs hv hlen hrep hb => (law3 W args htab vs (by
      rw [show Tryd.f3.params.toList = [23, 23] by kernel_rfl] at hv
      exact hv) hlen hrep (Nat.le_trans hb (small_of hk))).mono fun e W' ⟨he, q⟩ => ⟨he, q.os, q.output, q.same⟩)
theorem laid_met3 (os : Os) : laidMet Tryd.prog Rows.valueTellsUptoRow.laid ((laidWorld os).forCall (fun _ _ => 0) ⟨#[], #[.agg #[.int .i64 0, .int .i64 0, .string ⟨#[]⟩], .agg #[.int .i64 0, .int .i64 0, .string ⟨#[]⟩]], []⟩).memory :=
  laidMet_of_run' 8 (by kernel_rfl) (by kernel_rfl)
theorem reads3 (os : Os) {H : Type} (enc : TypeId × Value → H) : ∃ places, DataW.whole enc Tryd.prog ((laidWorld os).forCall (fun _ _ => 0) ⟨#[], #[.agg #[.int .i64 0, .int .i64 0, .string ⟨#[]⟩], .agg #[.int .i64 0, .int .i64 0, .string ⟨#[]⟩]], []⟩).memory Tryd.f3.params.toList Rows.valueTellsSpec.vars false #[.agg #[.int .i64 0, .int .i64 0, .string ⟨#[]⟩], .agg #[.int .i64 0, .int .i64 0, .string ⟨#[]⟩]].toList 8 = some ([.agg [.lit (.int .i64 0), .lit (.int .i64 0), .lit (.string [])], .agg [.lit (.int .i64 0), .lit (.int .i64 0), .lit (.string [])]], [], places) :=
  ⟨[], by kernel_rfl⟩
set_option maxRecDepth 100000 in
theorem lifted3 (os : Os) (started : os.Started) (H : Type) (enc : TypeId × Value → H) (F : Stop.Interp) :
    ReturnsInHanded {} Tryd.checked os 3 .any ((Rows.OpenSpec.upto Rows.valueTellsSpec).preRow enc Tryd.prog Tryd.f3 Rows.valueTellsUptoRow.domain false Rows.valueTellsUptoRow.laid) (((Rows.OpenSpec.upto Rows.valueTellsSpec).at F).post enc Tryd.prog Tryd.f3 false true false false) := by
  obtain ⟨places, hx⟩ := reads3 os enc
  refine returnsInHanded_of_row (C := Tryd.checked) (s := Rows.OpenSpec.upto Rows.valueTellsSpec) own started (by kernel_rfl) Tryd.func3
    (witness_row_at (enc := enc) (C := Tryd.checked) false (laidWorld os) #[.agg #[.int .i64 0, .int .i64 0, .string ⟨#[]⟩], .agg #[.int .i64 0, .int .i64 0, .string ⟨#[]⟩]] rfl (by kernel_rfl) (by kernel_rfl) (by kernel_rfl)
      (OpenSpec.preRow_of_cond 8 hx (by kernel_rfl) (fun k hk => by cases hk; kernel_rfl) (by kernel_rfl) (laid_met3 os))) ?_
  intro W base args ds gs before hval hW _ hcond _ hlaid _ _
  exact contract3 H enc W base args ds gs before hval hW (hcond _ rfl) hlaid
theorem valueTells_said : Rows.ValueTellsUptoSaid :=
  OpenClaim.holds_of_cond 3 Tryd.f3 rfl rfl rfl rfl rfl rfl rfl ⟨rfl, rfl, rfl, rfl, rfl⟩ rfl rfl rfl rfl rfl (by kernel_rfl) Tryd.func3 (by kernel_rfl)
    (of_decide_eq_true (by kernel_rfl)) (by unfold Func.isWrapper; first | (rw [if_pos (by decide +kernel)]; kernel_rfl) | (rw [if_neg (by decide +kernel)]; exact ⟨rfl, rfl⟩))
    (fun os started H enc _ F => by rw [OpenClaim.pre_eq_preRow]; exact lifted3 os started H enc F)
theorem wants3_23 : Tryd.prog.wantsStandIn 23 = false := by kernel_rfl
theorem plain3 (f : FuncId) (fn : Func) (hf : Tryd.pinned.checked.prog.funcNamed "vestry/vestrylaw07.ValueTells" = some f) (hfn : Tryd.pinned.checked.prog.funcs[f]? = some fn) :
    false = Tryd.pinned.checked.prog.looks [] ∧ ∀ (j : Nat) t, fn.params[j]? = some t → Tryd.pinned.checked.prog.wantsStandIn t = false := by
  obtain rfl : f = 3 := Option.some.inj ((show Tryd.prog.funcNamed "vestry/vestrylaw07.ValueTells" = some 3 by kernel_rfl).symm.trans hf) |>.symm
  obtain rfl : fn = Tryd.f3 := (Option.some.inj (Tryd.func3.symm.trans hfn)).symm
  refine ⟨by kernel_rfl, fun j t ht => ?_⟩
  rw [show Tryd.f3.params = #[23, 23] by kernel_rfl] at ht
  have hm := Array.mem_of_getElem? ht
  simp at hm
  have hall : t ∈ [23, 23] := by simpa using hm
  clear hm ht
  simp only [List.mem_cons, List.not_mem_nil, or_false] at hall
  rcases hall with rfl | rfl
  all_goals first | exact wants3_23
/-- The card. -/
theorem valueTells_holds : Rows.ValueTellsUptoCardSaid :=
  Claim7.holds_tied_plain_at .later [] _ _ _ _ valueTells_said (fun _ h => by cases h) (by kernel_rfl) (fun _ h => by cases h) valueTellsUpto_row_tie rfl ⟨rfl, rfl⟩ (by kernel_rfl) rfl plain3 (by kernel_rfl)

end Go.Proofs.YtgcjhapomljekaaDoor

