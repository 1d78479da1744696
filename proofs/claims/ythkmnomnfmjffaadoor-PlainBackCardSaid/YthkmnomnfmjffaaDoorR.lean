/- What the functions answer, and the laws. -/
import Derived.Test.YthkmnomnfmjffaaDoorW
import Derived.OpenShut
import Derived.WalkKit
import Derived.ProofKit
import Derived.Deep.DeepHandedRow
import Derived.Lib.LaidTab
import Derived.Test.YthkmnomnfmjffaaDoorCards
import Derived.Test.YthkmnomnfmjffaaDoorTie

set_option linter.unusedVariables false

set_option linter.unusedSimpArgs false

set_option linter.unusedSectionVars false

open Go Go.Ev

set_option linter.unusedSimpArgs false

set_option linter.unusedVariables false

set_option maxHeartbeats 1000000

namespace Go.Proofs.YthkmnomnfmjffaaDoor

theorem ty3 {v : PV} (h : Typed Tryd.prog 3 v) : ∃ n, v = .int .i64 n ∧ -9223372036854775808 ≤ n ∧ n ≤ 9223372036854775807 := by
  obtain ⟨d, hd⟩ := h.get
  obtain ⟨n, h1, h2⟩ := hd.int (k := .i64) (by kernel_rfl)
  obtain ⟨h3, h4⟩ := wf_i64 h2
  exact ⟨n, h.cell (by kernel_rfl) h1, h3, h4⟩
theorem wf_u8 {n : Int} (h : (Lit.int .u8 n).wf = true) : 0 ≤ n ∧ n ≤ 255 := by
  simpa [Lit.wf, IntKind.min, IntKind.max, IntKind.signed, IntKind.bits] using h
theorem fits_cell {v x : PV} (h : pvFits none v = true) (hx : v.cells = [x]) : v = x := by
  cases v <;> first | (cases h; done) | (simp [PV.cells] at hx; exact hx)
theorem byte_of {d : Nat} {x : PV} (h1 : pvFits none x = true) (h2 : TypedC Tryd.prog d 5 x.cells) : ∃ b, x = pvByte b := by
  obtain ⟨n, h3, h4⟩ := h2.int (k := .u8) (by kernel_rfl)
  obtain ⟨h5, h6⟩ := wf_u8 h4
  refine ⟨UInt8.ofNat n.toNat, ?_⟩
  rw [fits_cell h1 h3]
  unfold pvByte
  congr 1
  have : n.toNat < 256 := by omega
  simp [UInt8.toNat_ofNat', Nat.mod_eq_of_lt this]
  omega
theorem bytes_of : ∀ (xs : List PV), (∀ x ∈ xs, ∃ b, x = pvByte b) → ∃ l, xs = bb l
  | [], h => ⟨[], rfl⟩
  | x :: r, h => by
    obtain ⟨b, hb⟩ := h x (by simp)
    obtain ⟨l, hl⟩ := bytes_of r fun y hy => h y (by simp [hy])
    exact ⟨b :: l, by rw [hb, hl]; rfl⟩
theorem tc22 {d : Nat} {cs : List PV} (h : TypedC Tryd.prog d 22 cs) : ∃ l, cs = [.sl none (bb l)] := by
  obtain ⟨xs, h1, _, h2⟩ := h.slice (e := 5) (sh := none) (by kernel_rfl) (by kernel_rfl)
  obtain ⟨l, hl⟩ := bytes_of xs fun x hx => byte_of (h2 x hx).1 (h2 x hx).2
  exact ⟨l, by rw [h1, hl]⟩
theorem ty22 {v : PV} (h : Typed Tryd.prog 22 v) : ∃ l, v = .sl none (bb l) := by
  obtain ⟨d, hd⟩ := h.get
  obtain ⟨l, hl⟩ := tc22 hd
  exact ⟨l, h.cell (by kernel_rfl) hl⟩
theorem rows_of : ∀ (xs : List PV), (∀ x ∈ xs, ∃ l, x = .sl none (bb l)) → ∃ l, xs = bbs l
  | [], h => ⟨[], rfl⟩
  | x :: r, h => by
    obtain ⟨b, hb⟩ := h x (by simp)
    obtain ⟨l, hl⟩ := rows_of r fun y hy => h y (by simp [hy])
    exact ⟨b :: l, by rw [hb, hl]; rfl⟩
theorem ty33 {v : PV} (h : Typed Tryd.prog 33 v) : ∃ l, v = .sl none (bbs l) := by
  obtain ⟨d, hd⟩ := h.get
  obtain ⟨xs, h1, _, h2⟩ := hd.slice (e := 22) (sh := none) (by kernel_rfl) (by kernel_rfl)
  obtain ⟨l, hl⟩ := rows_of xs fun x hx => by
    obtain ⟨q, hq⟩ := tc22 (h2 x hx).2
    exact ⟨q, fits_cell (h2 x hx).1 hq⟩
  exact ⟨l, by rw [h.cell (by kernel_rfl) h1, hl]⟩
theorem bulk_bb : ∀ (l : List UInt8), pvBulks (bb l) = l.length
  | [] => rfl
  | b :: r => by
    show pvBulk (pvByte b) + pvBulks (bb r) = _
    rw [bulk_bb r]
    simp [pvByte, pvBulk]; omega
theorem ty9 {v : PV} (h : Typed Tryd.prog 9 v) : ∃ s, v = .str s := by
  obtain ⟨d, hd⟩ := h.get
  obtain ⟨s, h1, _⟩ := hd.str (by kernel_rfl)
  exact ⟨s, h.cell (by kernel_rfl) h1⟩
theorem law3 (vs : List PV) (h : TypedAll Tryd.prog [3, 3, 9, 9, 22, 22] vs) : ∃ n outs, pcall C n 3 (vs.map fun v => .flat (.val v)) = some ([.flat (.val (.bool true))], outs) := by
  obtain ⟨v1, r, rfl, h1, h⟩ := h.cons_inv
  obtain ⟨v2, r, rfl, h2, h⟩ := h.cons_inv
  obtain ⟨v3, r, rfl, h3, h⟩ := h.cons_inv
  obtain ⟨v4, r, rfl, h4, h⟩ := h.cons_inv
  obtain ⟨v5, r, rfl, h5, h⟩ := h.cons_inv
  obtain ⟨v6, r, rfl, h6, h⟩ := h.cons_inv
  cases h.nil_inv
  obtain ⟨x, rfl, x0, x1⟩ := ty3 h1
  obtain ⟨y, rfl, y0, y1⟩ := ty3 h2
  obtain ⟨s, rfl⟩ := ty9 h3
  obtain ⟨t, rfl⟩ := ty9 h4
  obtain ⟨a, rfl⟩ := ty22 h5
  obtain ⟨b, rfl⟩ := ty22 h6
  exact ⟨_, _, s3' 0 x y s t a b x0 x1 y0 y1⟩
theorem law4 (vs : List PV) (h : TypedAll Tryd.prog [9, 22] vs) (hb : pvBulks vs ≤ 1048576) : ∃ n outs, pcall C n 4 (vs.map fun v => .flat (.val v)) = some ([.flat (.val (.bool true))], outs) := by
  obtain ⟨v1, r, rfl, h1, h⟩ := h.cons_inv
  obtain ⟨v2, r, rfl, h2, h⟩ := h.cons_inv
  cases h.nil_inv
  obtain ⟨s, rfl⟩ := ty9 h1
  obtain ⟨b, rfl⟩ := ty22 h2
  simp only [pvBulks, pvBulk, bulk_bb] at hb
  exact ⟨_, _, s4' (s.length + b.length + 100) s b (by omega) (by omega) (by omega)⟩
theorem law5 (vs : List PV) (h : TypedAll Tryd.prog [3, 9, 33, 22] vs) : ∃ n outs, pcall C n 5 (vs.map fun v => .flat (.val v)) = some ([.flat (.val (.bool true))], outs) := by
  obtain ⟨v1, r, rfl, h1, h⟩ := h.cons_inv
  obtain ⟨v2, r, rfl, h2, h⟩ := h.cons_inv
  obtain ⟨v3, r, rfl, h3, h⟩ := h.cons_inv
  obtain ⟨v4, r, rfl, h4, h⟩ := h.cons_inv
  cases h.nil_inv
  obtain ⟨x, rfl, x0, x1⟩ := ty3 h1
  obtain ⟨s, rfl⟩ := ty9 h2
  obtain ⟨l, rfl⟩ := ty33 h3
  obtain ⟨b, rfl⟩ := ty22 h4
  exact ⟨_, _, s5' 0 x s l b x0 x1⟩
end Go.Proofs.YthkmnomnfmjffaaDoor

open Go Go.Ev

namespace Go.Proofs.YthkmnomnfmjffaaDoor
set_option maxHeartbeats 1000000

open Go.ChangeShapes Go.WideShapes Go.ChangeAt Go.RowKit

theorem own : ownKnob Tryd.prog.godebug = Option.none := by kernel_rfl
def types : List TypeId := [3, 5, 9, 22, 33]
mutual
theorem upto1 {H : Type} (d : DataW H) : Rows.uptoBulk d = dBulk d := match d with
  | .lit l => by cases l <;> simp [Rows.uptoBulk, dBulk]
  | .nil => by simp [Rows.uptoBulk, dBulk]
  | .ptr d => by simp [Rows.uptoBulk, dBulk, upto1 d]
  | .slice es sp => by simp [Rows.uptoBulk, dBulk, uptoL es, uptoL sp]
  | .agg ps => by simp [Rows.uptoBulk, dBulk, uptoL ps]
  | .iface t d => by simp [Rows.uptoBulk, dBulk, upto1 d]
  | .map es => by simp [Rows.uptoBulk, dBulk, uptoEs es]
  | .held h => by simp [Rows.uptoBulk, dBulk]
theorem uptoL {H : Type} (ds : List (DataW H)) : Rows.uptoBulkAll ds = dBulks ds := match ds with
  | [] => by simp [Rows.uptoBulkAll, dBulks]
  | d :: r => by simp [Rows.uptoBulkAll, dBulks, upto1 d, uptoL r]
theorem uptoEs {H : Type} (ds : List (Lit × DataW H)) : Rows.uptoBulkEntries ds = dBulkEs ds := match ds with
  | [] => by simp [Rows.uptoBulkEntries, dBulkEs]
  | d :: r => by simp [Rows.uptoBulkEntries, dBulkEs, uptoE d, uptoEs r]
theorem uptoE {H : Type} (x : Lit × DataW H) : Rows.uptoBulkEntry x = dBulkE x := match x with
  | (l, d) => by cases l <;> simp [Rows.uptoBulkEntry, dBulkE, upto1 d]
end
theorem small_of {H : Type} {ds : List (DataW H)} (h : Rows.uptoSmall H ds = true) : dBulks ds ≤ 1048576 := by
  rw [← uptoL]
  exact of_decide_eq_true h

/-- A world in which the listed variables stand as the program's text lays them. -/
noncomputable def laidWorld (os : Os) : World :=
  { World.holding Tryd.prog os ⟨#[], #[], []⟩ with heap := (((World.holding Tryd.prog os ⟨#[], #[], []⟩).heap.modify 1 fun
      | .cells _ t fr => .cells ((Go.Pinned.utf8FirstZ.map fun (z : Nat) => Value.int .u8 (Int.ofNat z)).toArray) t fr
      | o => o).modify 2 fun
      | .cells _ t fr => .cells #[.int .u8 128, .int .u8 191, .int .u8 160, .int .u8 191, .int .u8 128, .int .u8 159, .int .u8 144, .int .u8 191, .int .u8 128, .int .u8 143, .int .u8 0, .int .u8 0, .int .u8 0, .int .u8 0, .int .u8 0, .int .u8 0, .int .u8 0, .int .u8 0, .int .u8 0, .int .u8 0, .int .u8 0, .int .u8 0, .int .u8 0, .int .u8 0, .int .u8 0, .int .u8 0, .int .u8 0, .int .u8 0, .int .u8 0, .int .u8 0, .int .u8 0, .int .u8 0] t fr
      | o => o) }
theorem contract3 (H : Type) (enc : TypeId × Value → H) (W : World) (base : Nat) (args : Array Value) (ds gs : List (DataW H)) (before : List MemPlace)
    (hval : ∀ (j : Nat) t v, Tryd.f3.params[j]? = some t → args[j]? = some v → Value.okWide Tryd.prog W .any base t v)
    (hW : DataW.Whole enc Tryd.prog Tryd.f3.params.toList Rows.plainOrdersSpec.vars false W args.toList ds gs before) :
    Calls Tryd.prog 3 args W fun e W' => ∃ v, e = .returned v ∧ Rows.plainOrdersSpec.post enc Tryd.prog Tryd.f3 false true false false W args v W' :=
  law_contract (C := C) (T := types) (tb := 4) names prims laid (by kernel_rfl) (by intro t ht; rw [show Tryd.f3.params.toList = [3, 3, 9, 9, 22, 22] by kernel_rfl] at ht; revert t; decide) rfl (fun ds hds => by
    rw [show Tryd.f3.params.size = 6 by kernel_rfl] at hds
    match ds, hds with
    | [x0, x1, x2, x3, x4, x5], _ => rfl) (by kernel_rfl) (by kernel_rfl) hval hW (fun vs hv _ => law3 vs (by
      rw [show Tryd.f3.params.toList = [3, 3, 9, 9, 22, 22] by kernel_rfl] at hv
      exact hv))
theorem laid_met3 (os : Os) : laidMet Tryd.prog Rows.plainOrdersRow.laid ((laidWorld os).forCall (fun _ _ => 0) ⟨#[], #[.int .i64 0, .int .i64 0, .string ⟨#[]⟩, .string ⟨#[]⟩, .slice none 0 0, .slice none 0 0], []⟩).memory :=
  laidMet_of_run' 8 (by kernel_rfl) (by kernel_rfl)
theorem reads3 (os : Os) {H : Type} (enc : TypeId × Value → H) : ∃ places, DataW.whole enc Tryd.prog ((laidWorld os).forCall (fun _ _ => 0) ⟨#[], #[.int .i64 0, .int .i64 0, .string ⟨#[]⟩, .string ⟨#[]⟩, .slice none 0 0, .slice none 0 0], []⟩).memory Tryd.f3.params.toList Rows.plainOrdersSpec.vars false #[.int .i64 0, .int .i64 0, .string ⟨#[]⟩, .string ⟨#[]⟩, .slice none 0 0, .slice none 0 0].toList 8 = some ([.lit (.int .i64 0), .lit (.int .i64 0), .lit (.string []), .lit (.string []), .nil, .nil], [], places) :=
  ⟨[], by kernel_rfl⟩
set_option maxRecDepth 100000 in
theorem lifted3 (os : Os) (started : os.Started) (H : Type) (enc : TypeId × Value → H) (F : Stop.Interp) :
    ReturnsInHanded {} Tryd.checked os 3 .any ((OpenSpec.ofChange Rows.plainOrdersSpec).preRow enc Tryd.prog Tryd.f3 Rows.plainOrdersRow.domain false Rows.plainOrdersRow.laid) (((OpenSpec.ofChange Rows.plainOrdersSpec).at F).post enc Tryd.prog Tryd.f3 false true false false) := by
  obtain ⟨places, hx⟩ := reads3 os enc
  refine returnsInHanded_of_row (C := Tryd.checked) (s := OpenSpec.ofChange Rows.plainOrdersSpec) own started (by kernel_rfl) Tryd.func3
    (witness_row_at (enc := enc) (C := Tryd.checked) false (laidWorld os) #[.int .i64 0, .int .i64 0, .string ⟨#[]⟩, .string ⟨#[]⟩, .slice none 0 0, .slice none 0 0] rfl (by kernel_rfl) (by kernel_rfl) (by kernel_rfl)
      (OpenSpec.preRow_of_cond 8 hx (by kernel_rfl) (fun k hk => by cases hk) (by kernel_rfl) (laid_met3 os))) ?_
  intro W base args ds gs before hval hW _ _ _ _ _ _
  exact contract3 H enc W base args ds gs before hval hW
theorem plainOrders_said : Rows.PlainOrdersSaid :=
  OpenClaim.holds_of_cond 3 Tryd.f3 rfl rfl rfl rfl rfl rfl rfl ⟨rfl, rfl, rfl, rfl, rfl⟩ rfl rfl rfl rfl rfl (by kernel_rfl) Tryd.func3 (by kernel_rfl)
    (of_decide_eq_true (by kernel_rfl)) (by unfold Func.isWrapper; first | (rw [if_pos (by decide +kernel)]; kernel_rfl) | (rw [if_neg (by decide +kernel)]; exact ⟨rfl, rfl⟩))
    (fun os started H enc _ F => by rw [OpenClaim.pre_eq_preRow]; exact lifted3 os started H enc F)
theorem wants3_3 : Tryd.prog.wantsStandIn 3 = false := by kernel_rfl
theorem wants3_9 : Tryd.prog.wantsStandIn 9 = false := by kernel_rfl
theorem wants3_22 : Tryd.prog.wantsStandIn 22 = false := by kernel_rfl
theorem plain3 (f : FuncId) (fn : Func) (hf : Tryd.pinned.checked.prog.funcNamed "vestry/vestrylaw01.PlainOrders" = some f) (hfn : Tryd.pinned.checked.prog.funcs[f]? = some fn) :
    false = Tryd.pinned.checked.prog.looks [] ∧ ∀ (j : Nat) t, fn.params[j]? = some t → Tryd.pinned.checked.prog.wantsStandIn t = false := by
  obtain rfl : f = 3 := Option.some.inj ((show Tryd.prog.funcNamed "vestry/vestrylaw01.PlainOrders" = some 3 by kernel_rfl).symm.trans hf) |>.symm
  obtain rfl : fn = Tryd.f3 := (Option.some.inj (Tryd.func3.symm.trans hfn)).symm
  refine ⟨by kernel_rfl, fun j t ht => ?_⟩
  rw [show Tryd.f3.params = #[3, 3, 9, 9, 22, 22] by kernel_rfl] at ht
  have hm := Array.mem_of_getElem? ht
  simp at hm
  have hall : t ∈ [3, 3, 9, 9, 22, 22] := by simpa using hm
  clear hm ht
  simp only [List.mem_cons, List.not_mem_nil, or_false] at hall
  rcases hall with rfl | rfl | rfl | rfl | rfl | rfl
  all_goals first | exact wants3_3 | exact wants3_9 | exact wants3_22
/-- The card. -/
theorem plainOrders_holds : Rows.PlainOrdersCardSaid :=
  Claim7.holds_tied_plain_at .later [] _ _ _ _ plainOrders_said (fun _ h => by cases h) (by kernel_rfl) (fun _ h => by cases h) plainOrders_row_tie rfl ⟨rfl, rfl⟩ (by kernel_rfl) rfl plain3 (by kernel_rfl)

theorem contract4 (H : Type) (enc : TypeId × Value → H) (W : World) (base : Nat) (args : Array Value) (ds gs : List (DataW H)) (before : List MemPlace)
    (hval : ∀ (j : Nat) t v, Tryd.f4.params[j]? = some t → args[j]? = some v → Value.okWide Tryd.prog W .any base t v)
    (hW : DataW.Whole enc Tryd.prog Tryd.f4.params.toList Rows.plainTextsSpec.vars false W args.toList ds gs before) (hk : Rows.uptoSmall H (ds ++ gs) = true) :
    Calls Tryd.prog 4 args W fun e W' => ∃ v, e = .returned v ∧ Rows.plainTextsSpec.post enc Tryd.prog Tryd.f4 false true false false W args v W' :=
  law_contract (C := C) (T := types) (tb := 4) names prims laid (by kernel_rfl) (by intro t ht; rw [show Tryd.f4.params.toList = [9, 22] by kernel_rfl] at ht; revert t; decide) rfl (fun ds hds => by
    rw [show Tryd.f4.params.size = 2 by kernel_rfl] at hds
    match ds, hds with
    | [x0, x1], _ => rfl) (by kernel_rfl) (by kernel_rfl) hval hW (fun vs hv hb => law4 vs (by
      rw [show Tryd.f4.params.toList = [9, 22] by kernel_rfl] at hv
      exact hv) (Nat.le_trans hb (small_of hk)))
theorem laid_met4 (os : Os) : laidMet Tryd.prog Rows.plainTextsUptoRow.laid ((laidWorld os).forCall (fun _ _ => 0) ⟨#[], #[.string ⟨#[]⟩, .slice none 0 0], []⟩).memory :=
  laidMet_of_run' 8 (by kernel_rfl) (by kernel_rfl)
theorem reads4 (os : Os) {H : Type} (enc : TypeId × Value → H) : ∃ places, DataW.whole enc Tryd.prog ((laidWorld os).forCall (fun _ _ => 0) ⟨#[], #[.string ⟨#[]⟩, .slice none 0 0], []⟩).memory Tryd.f4.params.toList Rows.plainTextsSpec.vars false #[.string ⟨#[]⟩, .slice none 0 0].toList 8 = some ([.lit (.string []), .nil], [], places) :=
  ⟨[], by kernel_rfl⟩
set_option maxRecDepth 100000 in
theorem lifted4 (os : Os) (started : os.Started) (H : Type) (enc : TypeId × Value → H) (F : Stop.Interp) :
    ReturnsInHanded {} Tryd.checked os 4 .any ((Rows.OpenSpec.upto Rows.plainTextsSpec).preRow enc Tryd.prog Tryd.f4 Rows.plainTextsUptoRow.domain false Rows.plainTextsUptoRow.laid) (((Rows.OpenSpec.upto Rows.plainTextsSpec).at F).post enc Tryd.prog Tryd.f4 false true false false) := by
  obtain ⟨places, hx⟩ := reads4 os enc
  refine returnsInHanded_of_row (C := Tryd.checked) (s := Rows.OpenSpec.upto Rows.plainTextsSpec) own started (by kernel_rfl) Tryd.func4
    (witness_row_at (enc := enc) (C := Tryd.checked) false (laidWorld os) #[.string ⟨#[]⟩, .slice none 0 0] rfl (by kernel_rfl) (by kernel_rfl) (by kernel_rfl)
      (OpenSpec.preRow_of_cond 8 hx (by kernel_rfl) (fun k hk => by cases hk; kernel_rfl) (by kernel_rfl) (laid_met4 os))) ?_
  intro W base args ds gs before hval hW _ hcond _ _ _ _
  exact contract4 H enc W base args ds gs before hval hW (hcond _ rfl)
theorem plainTexts_said : Rows.PlainTextsUptoSaid :=
  OpenClaim.holds_of_cond 4 Tryd.f4 rfl rfl rfl rfl rfl rfl rfl ⟨rfl, rfl, rfl, rfl, rfl⟩ rfl rfl rfl rfl rfl (by kernel_rfl) Tryd.func4 (by kernel_rfl)
    (of_decide_eq_true (by kernel_rfl)) (by unfold Func.isWrapper; first | (rw [if_pos (by decide +kernel)]; kernel_rfl) | (rw [if_neg (by decide +kernel)]; exact ⟨rfl, rfl⟩))
    (fun os started H enc _ F => by rw [OpenClaim.pre_eq_preRow]; exact lifted4 os started H enc F)
theorem wants4_9 : Tryd.prog.wantsStandIn 9 = false := by kernel_rfl
theorem wants4_22 : Tryd.prog.wantsStandIn 22 = false := by kernel_rfl
theorem plain4 (f : FuncId) (fn : Func) (hf : Tryd.pinned.checked.prog.funcNamed "vestry/vestrylaw01.PlainTexts" = some f) (hfn : Tryd.pinned.checked.prog.funcs[f]? = some fn) :
    false = Tryd.pinned.checked.prog.looks [] ∧ ∀ (j : Nat) t, fn.params[j]? = some t → Tryd.pinned.checked.prog.wantsStandIn t = false := by
  obtain rfl : f = 4 := Option.some.inj ((show Tryd.prog.funcNamed "vestry/vestrylaw01.PlainTexts" = some 4 by kernel_rfl).symm.trans hf) |>.symm
  obtain rfl : fn = Tryd.f4 := (Option.some.inj (Tryd.func4.symm.trans hfn)).symm
  refine ⟨by kernel_rfl, fun j t ht => ?_⟩
  rw [show Tryd.f4.params = #[9, 22] by kernel_rfl] at ht
  have hm := Array.mem_of_getElem? ht
  simp at hm
  have hall : t ∈ [9, 22] := by simpa using hm
  clear hm ht
  simp only [List.mem_cons, List.not_mem_nil, or_false] at hall
  rcases hall with rfl | rfl
  all_goals first | exact wants4_9 | exact wants4_22
/-- The card. -/
theorem plainTexts_holds : Rows.PlainTextsUptoCardSaid :=
  Claim7.holds_tied_plain_at .later [] _ _ _ _ plainTexts_said (fun _ h => by cases h) (by kernel_rfl) (fun _ h => by cases h) plainTextsUpto_row_tie rfl ⟨rfl, rfl⟩ (by kernel_rfl) rfl plain4 (by kernel_rfl)

theorem contract5 (H : Type) (enc : TypeId × Value → H) (W : World) (base : Nat) (args : Array Value) (ds gs : List (DataW H)) (before : List MemPlace)
    (hval : ∀ (j : Nat) t v, Tryd.f5.params[j]? = some t → args[j]? = some v → Value.okWide Tryd.prog W .any base t v)
    (hW : DataW.Whole enc Tryd.prog Tryd.f5.params.toList Rows.plainBackSpec.vars false W args.toList ds gs before) :
    Calls Tryd.prog 5 args W fun e W' => ∃ v, e = .returned v ∧ Rows.plainBackSpec.post enc Tryd.prog Tryd.f5 false true false false W args v W' :=
  law_contract (C := C) (T := types) (tb := 4) names prims laid (by kernel_rfl) (by intro t ht; rw [show Tryd.f5.params.toList = [3, 9, 33, 22] by kernel_rfl] at ht; revert t; decide) rfl (fun ds hds => by
    rw [show Tryd.f5.params.size = 4 by kernel_rfl] at hds
    match ds, hds with
    | [x0, x1, x2, x3], _ => rfl) (by kernel_rfl) (by kernel_rfl) hval hW (fun vs hv _ => law5 vs (by
      rw [show Tryd.f5.params.toList = [3, 9, 33, 22] by kernel_rfl] at hv
      exact hv))
theorem laid_met5 (os : Os) : laidMet Tryd.prog Rows.plainBackRow.laid ((laidWorld os).forCall (fun _ _ => 0) ⟨#[], #[.int .i64 0, .string ⟨#[]⟩, .slice none 0 0, .slice none 0 0], []⟩).memory :=
  laidMet_of_run' 8 (by kernel_rfl) (by kernel_rfl)
theorem reads5 (os : Os) {H : Type} (enc : TypeId × Value → H) : ∃ places, DataW.whole enc Tryd.prog ((laidWorld os).forCall (fun _ _ => 0) ⟨#[], #[.int .i64 0, .string ⟨#[]⟩, .slice none 0 0, .slice none 0 0], []⟩).memory Tryd.f5.params.toList Rows.plainBackSpec.vars false #[.int .i64 0, .string ⟨#[]⟩, .slice none 0 0, .slice none 0 0].toList 8 = some ([.lit (.int .i64 0), .lit (.string []), .nil, .nil], [], places) :=
  ⟨[], by kernel_rfl⟩
set_option maxRecDepth 100000 in
theorem lifted5 (os : Os) (started : os.Started) (H : Type) (enc : TypeId × Value → H) (F : Stop.Interp) :
    ReturnsInHanded {} Tryd.checked os 5 .any ((OpenSpec.ofChange Rows.plainBackSpec).preRow enc Tryd.prog Tryd.f5 Rows.plainBackRow.domain false Rows.plainBackRow.laid) (((OpenSpec.ofChange Rows.plainBackSpec).at F).post enc Tryd.prog Tryd.f5 false true false false) := by
  obtain ⟨places, hx⟩ := reads5 os enc
  refine returnsInHanded_of_row (C := Tryd.checked) (s := OpenSpec.ofChange Rows.plainBackSpec) own started (by kernel_rfl) Tryd.func5
    (witness_row_at (enc := enc) (C := Tryd.checked) false (laidWorld os) #[.int .i64 0, .string ⟨#[]⟩, .slice none 0 0, .slice none 0 0] rfl (by kernel_rfl) (by kernel_rfl) (by kernel_rfl)
      (OpenSpec.preRow_of_cond 8 hx (by kernel_rfl) (fun k hk => by cases hk) (by kernel_rfl) (laid_met5 os))) ?_
  intro W base args ds gs before hval hW _ _ _ _ _ _
  exact contract5 H enc W base args ds gs before hval hW
theorem plainBack_said : Rows.PlainBackSaid :=
  OpenClaim.holds_of_cond 5 Tryd.f5 rfl rfl rfl rfl rfl rfl rfl ⟨rfl, rfl, rfl, rfl, rfl⟩ rfl rfl rfl rfl rfl (by kernel_rfl) Tryd.func5 (by kernel_rfl)
    (of_decide_eq_true (by kernel_rfl)) (by unfold Func.isWrapper; first | (rw [if_pos (by decide +kernel)]; kernel_rfl) | (rw [if_neg (by decide +kernel)]; exact ⟨rfl, rfl⟩))
    (fun os started H enc _ F => by rw [OpenClaim.pre_eq_preRow]; exact lifted5 os started H enc F)
theorem wants5_3 : Tryd.prog.wantsStandIn 3 = false := by kernel_rfl
theorem wants5_9 : Tryd.prog.wantsStandIn 9 = false := by kernel_rfl
theorem wants5_22 : Tryd.prog.wantsStandIn 22 = false := by kernel_rfl
theorem wants5_33 : Tryd.prog.wantsStandIn 33 = false := by kernel_rfl
theorem plain5 (f : FuncId) (fn : Func) (hf : Tryd.pinned.checked.prog.funcNamed "vestry/vestrylaw01.PlainBack" = some f) (hfn : Tryd.pinned.checked.prog.funcs[f]? = some fn) :
    false = Tryd.pinned.checked.prog.looks [] ∧ ∀ (j : Nat) t, fn.params[j]? = some t → Tryd.pinned.checked.prog.wantsStandIn t = false := by
  obtain rfl : f = 5 := Option.some.inj ((show Tryd.prog.funcNamed "vestry/vestrylaw01.PlainBack" = some 5 by kernel_rfl).symm.trans hf) |>.symm
  obtain rfl : fn = Tryd.f5 := (Option.some.inj (Tryd.func5.symm.trans hfn)).symm
  refine ⟨by kernel_rfl, fun j t ht => ?_⟩
  rw [show Tryd.f5.params = #[3, 9, 33, 22] by kernel_rfl] at ht
  have hm := Array.mem_of_getElem? ht
  simp at hm
  have hall : t ∈ [3, 9, 33, 22] := by simpa using hm
  clear hm ht
  simp only [List.mem_cons, List.not_mem_nil, or_false] at hall
  rcases hall with rfl | rfl | rfl | rfl
  all_goals first | exact wants5_3 | exact wants5_9 | exact wants5_22 | exact wants5_33
/-- The card. -/
theorem plainBack_holds : Rows.PlainBackCardSaid :=
  Claim7.holds_tied_plain_at .later [] _ _ _ _ plainBack_said (fun _ h => by cases h) (by kernel_rfl) (fun _ h => by cases h) plainBack_row_tie rfl ⟨rfl, rfl⟩ (by kernel_rfl) rfl plain5 (by kernel_rfl)

end Go.Proofs.YthkmnomnfmjffaaDoor

