/- What the functions answer, and the laws. -/
import Derived.Test.YtgcjhapomljekaaDoorW
import Derived.Test.YtgcjhapomljekaaDoorProg
import Derived.Ground.NamesProg
import Derived.Shelf.Lay
import Derived.Shelf.Strings.Replace
import Derived.Lib.Strings
import Derived.Lib.Bytealg

set_option linter.unusedVariables false

set_option linter.unusedSimpArgs false

set_option linter.unusedSectionVars false

namespace Go.Proofs
open Go.Shelf Go.RowKit Go.Lib

shelf_lay Lays.n154 Nm 154 at Tryd as Tryd.lays154
theorem Tryd.extra154 : Builder.Extra Tryd.prog Tryd.lays154_ren where
  sizeBuilder := by kernel_rfl
  liesBuilder := by kernel_rfl
  t5 := Tryd.lays154.t5
  a5 := Tryd.lays154.a5
  z5 := Tryd.lays154.z5
  v5 := Tryd.lays154.v5
  infoByte := by kernel_rfl
  cellsByte := by kernel_rfl
  sizeByte := by kernel_rfl
  neB5 := by decide
set_option maxHeartbeats 1000000 in
set_option maxRecDepth 100000 in
theorem Tryd.count_its (w : World) :
    Calls Tryd.prog 59 #[.string ⟨#[105, 116, 39, 115]⟩, .string ⟨#[39]⟩] w fun e w' => e = .returned (.int .i64 1) ∧ w' = w :=
  (Any.strings_Count_one { Tryd.lays154 with } ⟨#[105, 116, 39, 115]⟩ 39 w).mono fun e w' ⟨h1, h2⟩ => ⟨h1, h2⟩
set_option maxHeartbeats 1000000 in
set_option maxRecDepth 100000 in
theorem Tryd.index_its (w : World) :
    Calls Tryd.prog 61 #[.string ⟨#[105, 116, 39, 115]⟩, .string ⟨#[39]⟩] w fun e w' => e = .returned (.int .i64 2) ∧ w' = w := by
  go_enter Tryd.func61, Tryd.ntmps61
  go_wp2_with (go_at_call 77; refine (Any.stringslite_Index_one { Tryd.lays154 with } ⟨#[105, 116, 39, 115]⟩ 39 _).mono ?_; rintro e w' ⟨rfl, rfl⟩)
  go_ret
  exact ⟨rfl, rfl⟩
theorem Tryd.hid {p : Prop} (h : p) : Hid p := h
set_option maxHeartbeats 4000000 in
set_option maxRecDepth 1000000 in
theorem Tryd.replace_its (w : World) :
    Calls Tryd.prog 49 #[.string ⟨#[105, 116, 39, 115]⟩, .string ⟨#[39]⟩, .string ⟨#[39, 39]⟩, .int .i64 (-1)] w fun e w' => e = .returned (.string ⟨#[105, 116, 39, 39, 115]⟩) ∧ Below w.heap.size w w' := by
  have X := Tryd.extra154
  go_enter Tryd.func49, Tryd.ntmps49
  go_wp2_with (first | (go_at_call 59; refine (Tryd.count_its _).mono ?_; rintro e w' ⟨rfl, hw⟩; rw [hw]))
  refine (Any.Builder_Grow_fresh { Tryd.lays154 with } X w.heap.size w.heap.size 5 _ (Nat.le_refl _) (heap_alloc_new w _) (by simp) (by omega)).mono ?_
  rintro e w1 ⟨rfl, hb0, hb1⟩
  have H1 := Tryd.hid (Or.inr hb0 : Lib.IsBuilder 72 5 w.heap.size w.heap.size (Lib.byteCells []) w1)
  have Hb1 := Tryd.hid (((Below.refl w.heap.size w).alloc (Nat.le_refl _) _).trans hb1)
  clear hb0 hb1
  go_wp2_with fail
  go_loopg [11, 53] 1 (fun g s11 s53 wx => ∃ (i start : Nat) (acc : List UInt8), s53 = .int .i64 i ∧ s11 = .int .i64 start ∧ i + g = 1 ∧ start = 3 * i ∧ acc = (if i = 0 then [] else [105, 116, 39, 39]) ∧
      Hid (Lib.IsBuilder 72 5 w.heap.size w.heap.size (Lib.byteCells acc) wx) ∧ Hid (Below w.heap.size w wx))
  case atStart => exact ⟨0, 0, [], rfl, rfl, by omega, rfl, rfl, H1, Hb1⟩
  case round =>
    obtain ⟨i, start, acc, rfl, rfl, hig, rfl, rfl, HB, HW⟩ := hrel
    have hBw : w.heap.size ≤ wr.heap.size := HW.out.size
    cases gk with
    | zero =>
      obtain rfl : i = 1 := by omega
      go_wp2_with fail
      refine (Any.Builder_WriteString { Tryd.lays154 with } X w.heap.size w.heap.size (Lib.byteCells [105, 116, 39, 39]) ⟨#[115]⟩ wr HB.out (by decide) hBw).mono ?_
      rintro e w3 ⟨rfl, h3, hb3⟩
      have hfin : Lib.byteCells [105, 116, 39, 39] ++ Lib.strCells ⟨#[115]⟩ = Lib.byteCells [105, 116, 39, 39, 115] := by rw [Lib.strCells_eq, ← Lib.byteCells_append]; rfl
      rw [hfin] at h3
      have H3 := Tryd.hid (Or.inr h3 : Lib.IsBuilder 72 5 w.heap.size w.heap.size _ w3)
      have Hb3 := Tryd.hid (HW.out.trans hb3)
      have hBw3 : w.heap.size ≤ w3.heap.size := Hb3.out.size
      clear h3 hb3 hfin
      go_wp2_with fail
      refine (Any.Builder_String_any { Tryd.lays154 with } X w.heap.size w.heap.size [105, 116, 39, 39, 115] w3 H3.out hBw3).mono ?_
      rintro e w5 ⟨rfl, hb5⟩
      have Hb5 := Tryd.hid (Hb3.out.trans hb5)
      clear hb5
      go_wp2
      go_ret
      exact ⟨rfl, Hb5.out⟩
    | succ g =>
      obtain rfl : i = 0 := by omega
      obtain rfl : g = 0 := by omega
      have hn : Lib.byteCells [] ++ Lib.strCells ⟨#[105, 116]⟩ ++ Lib.strCells ⟨#[39, 39]⟩ = Lib.byteCells [105, 116, 39, 39] := by
        rw [Lib.strCells_eq, Lib.strCells_eq, ← Lib.byteCells_append, ← Lib.byteCells_append]; rfl
      have Hn := Tryd.hid hn
      clear hn
      go_wp2_with (first | (go_at_call 61; refine (Tryd.index_its _).mono ?_; rintro e w' ⟨rfl, hw⟩; rw [hw]))
      refine (Any.Builder_WriteString { Tryd.lays154 with } X w.heap.size w.heap.size (Lib.byteCells []) ⟨#[105, 116]⟩ wr HB.out (by decide) hBw).mono ?_
      rintro e w3 ⟨rfl, h3, hb3⟩
      have hBw3 : w.heap.size ≤ w3.heap.size := Nat.le_trans hBw hb3.size
      have H3 := Tryd.hid h3
      have Hb3 := Tryd.hid hb3
      clear h3 hb3
      go_wp2_with fail
      refine (Any.Builder_WriteString { Tryd.lays154 with } X w.heap.size w.heap.size (Lib.byteCells [] ++ Lib.strCells ⟨#[105, 116]⟩) ⟨#[39, 39]⟩ w3 (Or.inr H3.out) (by decide) hBw3).mono ?_
      rintro e w4 ⟨rfl, h4, hb4⟩
      rw [Hn.out] at h4
      have H4 := Tryd.hid (Or.inr h4 : Lib.IsBuilder 72 5 w.heap.size w.heap.size _ w4)
      have Hb4 := Tryd.hid ((HW.out.trans Hb3.out).trans hb4)
      clear h4 hb4
      go_wp2
      go_roundg 0
      case measure => omega
      case rel => exact ⟨1, 3, _, rfl, rfl, by omega, by omega, rfl, H4, Hb4⟩
set_option maxHeartbeats 1000000 in
set_option maxRecDepth 100000 in
theorem Tryd.replaceAll_its (w : World) :
    Calls Tryd.prog 36 #[.string ⟨#[105, 116, 39, 115]⟩, .string ⟨#[39]⟩, .string ⟨#[39, 39]⟩] w fun e w' => e = .returned (.string ⟨#[105, 116, 39, 39, 115]⟩) ∧ Below w.heap.size w w' := by
  go_enter Tryd.func36, Tryd.ntmps36
  go_wp2_with (first | (go_at_call 49; refine (Tryd.replace_its _).mono ?_; rintro e w' ⟨rfl, hw⟩))
  go_ret
  exact ⟨rfl, hw⟩
end Go.Proofs

open Go Go.Ev

namespace Go.Proofs.YtgcjhapomljekaaDoor
open Go.RowKit Go.Shelf

theorem conv22 (A : Option Addr) (n c : Nat) (w : World) (s : ByteArray) (h : (Conv.bytesToString (.slice A n c)).run Tryd.prog w = .ok (.string s) w) : (convert 30 9 (.slice A n c)).run Tryd.prog w = .ok (.string s) w := by
  rw [run_convert_bytes_string w 30 9 5 A n c t22s t5s t9s]
  exact h
set_option maxHeartbeats 1000000 in
set_option maxRecDepth 100000 in
theorem bytealg_compare (a b : ByteArray) (w : World) :
    Calls Tryd.prog 47 #[.string a, .string b] w fun e w' => e = .returned (.int .i64 (Lib.compareBytes a.data.toList b.data.toList)) ∧ w' = w := by
  go_enter Tryd.func47, Tryd.ntmps47
  go_wp2
  rw [run_callFunc_extern Tryd.func57 (by kernel_rfl) (by kernel_rfl) (by kernel_rfl) (e := Extern.BytealgCompare.compare) (by kernel_rfl), Lib.run_compareString]
  simp only [Result.andThen]
  rw [Oper.upon_value]
  go_wp2
  go_ret
  exact ⟨rfl, rfl⟩
set_option maxHeartbeats 1000000 in
theorem strings_compare (a b : ByteArray) (w : World) :
    Calls Tryd.prog 34 #[.string a, .string b] w fun e w' => e = .returned (.int .i64 (Lib.compareBytes a.data.toList b.data.toList)) ∧ w' = w := by
  go_enter Tryd.func34, Tryd.ntmps34
  go_wp2_with (go_at_call 47; refine (bytealg_compare _ _ _).mono ?_; rintro e w' ⟨rfl, rfl⟩)
  go_ret
  exact ⟨rfl, rfl⟩
theorem prims : ∀ (g : FuncId) p os rr, C.prim g = some p → p os = some rr → CallSpec C.P g os rr.1 rr.2 := by
  intro g p os rr h1 h2
  have h1 : prim g = some p := h1
  unfold prim at h1
  split at h1
  · cases h1
    exact primLent_spec lent_none lent_some h2
  · cases h1
    exact primKept_spec (fun A0 n c A1 m c1 s0 s1 w r0 r1 hs => kept_no _ _ s0 s1 w (conv22 _ _ _ _ _ r0) (conv22 _ _ _ _ _ r1) hs) (fun b n c A1 m c1 s0 s1 z w r0 r1 hs hm hb hz => kept_yes b n c A1 m c1 s0 s1 z w (conv22 _ _ _ _ _ r0) (conv22 _ _ _ _ _ r1) hs hm hb hz) h2
  · cases h1
    exact primOwned_spec owned_nil (fun w b N c0 A n cp g h hN => owned_walk h hN) h2
  · cases h1
    exact primCompare_spec strings_compare h2
  · cases h1
    exact primQuote_spec Tryd.replaceAll_its h2
  · cases h1
    exact primIndexByte_spec index_walk h2
  · cases h1
    exact primCountOne_spec count_walk h2
  · cases h1
end Go.Proofs.YtgcjhapomljekaaDoor

