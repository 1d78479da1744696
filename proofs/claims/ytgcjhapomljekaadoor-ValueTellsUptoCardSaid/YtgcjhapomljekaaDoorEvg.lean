/- An evaluator of the model's code over pure data, and why it is right: part 7. -/
import Derived.Test.YtgcjhapomljekaaDoorEvf
import Derived.Lib.BytesEntry
import Derived.Lib.Bytealg
import Derived.Shelf.Bytes.SlCountOne
import Derived.Below

set_option linter.unusedVariables false

set_option linter.unusedSimpArgs false

set_option linter.unusedSectionVars false

namespace Go.Ev

/-- A field of a struct type: its type, where it begins, how many cells it has. -/
def fieldAt (P : Program) (t : TypeId) (i : Nat) : Option (TypeId × Nat × Nat) := match P.underlying t with
  | some (.struct fs) => (fs.toList[i]?).map fun f => (f.type, f.offset, P.cellsOf f.type)
  | _ => none
def isStruct (P : Program) (t : TypeId) : Bool := match P.underlying t with
  | some (.struct _) => true
  | _ => false

section
variable {P : Program} {d : Nat} {t : TypeId} {cs : List PV} {v : PV}

theorem TypedC.field {i : Nat} {ty : TypeId} {off n : Nat} (h : TypedC P d t cs) (hf : fieldAt P t i = some (ty, off, n)) : TypedC P (d - 1) ty ((cs.drop off).take n) := by
  cases d with
  | zero => exact h.elim
  | succ d =>
    unfold fieldAt at hf
    unfold TypedC at h
    split at hf
    · rename_i fs hu
      rw [hu] at h
      cases hg : fs.toList[i]? with
      | none => rw [hg] at hf; cases hf
      | some f =>
        rw [hg] at hf
        cases hf
        exact h.2 f (List.mem_of_getElem? hg)
    · cases hf
theorem TypedC.len (h : TypedC P d t cs) (hs : isStruct P t = true) : cs.length = P.cellsOf t := by
  cases d with
  | zero => exact h.elim
  | succ d =>
    unfold isStruct at hs
    unfold TypedC at h
    split at hs
    · rename_i fs hu
      rw [hu] at h
      exact h.1
    · cases hs
theorem TypedC.int {k : IntKind} (h : TypedC P d t cs) (hu : P.underlying t = some (.int k)) : ∃ n, cs = [.int k n] ∧ (Lit.int k n).wf = true := by
  cases d with
  | zero => exact h.elim
  | succ d => unfold TypedC at h; rw [hu] at h; exact h
theorem TypedC.bool (h : TypedC P d t cs) (hu : P.underlying t = some .bool) : ∃ b, cs = [.bool b] := by
  cases d with
  | zero => exact h.elim
  | succ d => unfold TypedC at h; rw [hu] at h; exact h
theorem TypedC.str (h : TypedC P d t cs) (hu : P.underlying t = some .string) : ∃ s, cs = [.str s] ∧ s.length ≤ maxLen := by
  cases d with
  | zero => exact h.elim
  | succ d => unfold TypedC at h; rw [hu] at h; exact h
theorem TypedC.slice {e : TypeId} {sh : Option Nat} (h : TypedC P d t cs) (hu : P.underlying t = some (.slice e)) (hs : tShape P e = some sh) : ∃ xs, cs = [.sl sh xs] ∧ xs.length ≤ maxLen ∧ ∀ x ∈ xs, pvFits sh x = true ∧ TypedC P (d - 1) e x.cells := by
  cases d with
  | zero => exact h.elim
  | succ d =>
    unfold TypedC at h
    rw [hu] at h
    obtain ⟨sh', xs, h1, h2, h3, h4⟩ := h
    rw [hs] at h2
    cases h2
    exact ⟨xs, h1, h3, h4⟩
theorem Typed.cell {x : PV} (h : Typed P t v) (hs : tShape P t = some none) (hx : v.cells = [x]) : v = x := by
  obtain ⟨d, sh, h1, h2, h3⟩ := h
  rw [hs] at h1
  cases h1
  cases v <;> first | (cases h2; done) | (simp [PV.cells] at hx; exact hx)
theorem Typed.get (h : Typed P t v) : ∃ d, TypedC P d t v.cells := ⟨h.choose, h.choose_spec.choose_spec.2.2⟩
theorem fits_agg {n : Nat} (h : pvFits (some n) v = true) : v = .agg v.cells := by
  cases v <;> first | rfl | (cases h; done)
theorem Typed.agg {n : Nat} (h : Typed P t v) (hs : tShape P t = some (some n)) : v = .agg v.cells := by
  obtain ⟨d, sh, h1, h2, h3⟩ := h
  rw [hs] at h1
  cases h1
  exact fits_agg h2
theorem TypedAll.nil_inv {vs : List PV} (h : TypedAll P [] vs) : vs = [] := by cases h; rfl
theorem TypedAll.cons_inv {ts : List TypeId} {vs : List PV} (h : TypedAll P (t :: ts) vs) : ∃ v r, vs = v :: r ∧ Typed P t v ∧ TypedAll P ts r := by
  cases h with
  | cons _ v _ r h1 h2 => exact ⟨v, r, rfl, h1, h2⟩
end
theorem wf_i64 {n : Int} (h : (Lit.int .i64 n).wf = true) : -9223372036854775808 ≤ n ∧ n ≤ 9223372036854775807 := by
  simpa [Lit.wf, IntKind.min, IntKind.max, IntKind.signed, IntKind.bits] using h
end Go.Ev

namespace Go.Ev

theorem setCell_heap (w : World) (g o : Nat) (cur : Array Value) (v : Value) (t : TypeId) (fr : Nat × Nat) (hg : w.heap[g]? = some (.cells cur t fr)) : (w.setCell ⟨g, o, none⟩ v).heap[g]? = some (.cells (cur.setIfInBounds o v) t fr) := by
  have hlt : g < w.heap.size := (Array.getElem?_eq_some_iff.1 hg).1
  have hv : w.heap[g] = .cells cur t fr := (Array.getElem?_eq_some_iff.1 hg).2
  unfold World.setCell
  rw [Array.getElem?_eq_getElem (by simpa using hlt), Array.getElem_modify]
  simp [hv]
theorem alloc_heap (w : World) (o : Obj) : (w.alloc o).heap[w.heap.size]? = some o := by
  show (w.heap.push o)[w.heap.size]? = some o
  rw [Array.getElem?_push]
  simp

/-- Rows of bytes, each in a block of its own, in a row of rows. -/
structure RowsOf (w : World) (b N : Nat) (A : Nat → Option Addr) (n cp g : Nat → Nat) : Prop where
  cell : ∀ j, j < N → w.cell? ⟨b, j, none⟩ = some (.slice (A j) (n j) (cp j))
  small : ∀ j, j < N → n j ≤ cp j ∧ cp j ≤ 9223372036854775807
  at_ : ∀ j, j < N → 0 < cp j → A j = some ⟨g j, 0, none⟩ ∧ g j ≠ b ∧ ∃ cu t fr, w.heap[g j]? = some (.cells cu t fr) ∧ Thawed cu fr ∧ cp j ≤ cu.size
  apart : ∀ i j, i < N → j < N → 0 < cp i → 0 < cp j → g i = g j → i = j

/-- What stands of the rows while they are written over. -/
structure Written (w wr : World) (N : Nat) (cp g : Nat → Nat) (f : Nat → Nat) : Prop where
  os : wr.os = w.os
  tape : wr.tape = w.tape
  output : wr.output = w.output
  size : wr.heap.size = w.heap.size
  same : ∀ k, (∀ j, j < N → 0 < cp j → k ≠ g j) → wr.heap[k]? = w.heap[k]?
  row : ∀ j, j < N → 0 < cp j → ∃ cu t fr, wr.heap[g j]? = some (.cells cu t fr) ∧ Thawed cu fr ∧ cp j ≤ cu.size ∧ ∀ q, q < f j → q < cp j → cu[q]? = some (.int .u8 (IntKind.u8.wrap ((j : Int) + 1)))

section
variable {w wr : World} {b N : Nat} {A : Nat → Option Addr} {n cp g f f' : Nat → Nat}

theorem Written.start (h : RowsOf w b N A n cp g) : Written w w N cp g (fun _ => 0) :=
  ⟨rfl, rfl, rfl, rfl, fun _ _ => rfl, fun j hj hc => by
    obtain ⟨_, _, cu, t, fr, h1, h2, h3⟩ := h.at_ j hj hc
    exact ⟨cu, t, fr, h1, h2, h3, fun q hq => absurd hq (Nat.not_lt_zero _)⟩⟩
theorem Written.weaken (h : Written w wr N cp g f) (hf : ∀ j, j < N → 0 < cp j → f' j ≤ f j ∨ cp j ≤ f j) : Written w wr N cp g f' :=
  ⟨h.os, h.tape, h.output, h.size, h.same, fun j hj hc => by
    obtain ⟨cu, t, fr, h1, h2, h3, h4⟩ := h.row j hj hc
    exact ⟨cu, t, fr, h1, h2, h3, fun q hq hqc => h4 q (by rcases hf j hj hc with h | h <;> omega) hqc⟩⟩
theorem Written.cell (h : Written w wr N cp g f) (hR : RowsOf w b N A n cp g) {j : Nat} (hj : j < N) : wr.cell? ⟨b, j, none⟩ = some (.slice (A j) (n j) (cp j)) := by
  rw [cell_same (w := w) (h.same b fun j hj hc e => (hR.at_ j hj hc).2.1 e.symm)]
  exact hR.cell j hj
theorem Written.put (h : Written w wr N cp g f) (hR : RowsOf w b N A n cp g) {i k : Nat} (hi : i < N) (hk : k < cp i) (hf : f i = k) :
    Written w (wr.setCell ⟨g i, k, none⟩ (.int .u8 (IntKind.u8.wrap ((i : Int) + 1)))) N cp g (fun j => if j = i then k + 1 else f j) := by
  obtain ⟨cu, t, fr, h1, h2, h3, h4⟩ := h.row i hi (by omega)
  have hne : ∀ q, q ≠ g i → (wr.setCell ⟨g i, k, none⟩ (.int .u8 (IntKind.u8.wrap ((i : Int) + 1)))).heap[q]? = wr.heap[q]? := fun q hq => by
    simp [World.setCell, Array.getElem?_modify, Ne.symm hq]
  refine ⟨h.os, h.tape, h.output, by simp [World.setCell, h.size], fun q hq => ?_, fun j hj hc => ?_⟩
  · rw [hne q (hq i hi (by omega))]
    exact h.same q hq
  · by_cases hji : j = i
    · subst hji
      refine ⟨_, t, fr, setCell_heap wr (g j) k cu _ t fr h1, h2.size (by simp), by simpa using h3, fun q hq hqc => ?_⟩
      rw [if_pos rfl] at hq
      rw [Array.getElem?_setIfInBounds]
      by_cases hqk : k = q
      · subst hqk
        rw [if_pos rfl, if_pos (by omega)]
      · rw [if_neg hqk]
        exact h4 q (by omega) hqc
    · obtain ⟨cu', t', fr', g1, g2, g3, g4⟩ := h.row j hj hc
      have hgj : g j ≠ g i := fun e => hji (hR.apart j i hj hi hc (by omega) e)
      exact ⟨cu', t', fr', by rw [hne _ hgj]; exact g1, g2, g3, fun q hq hqc => g4 q (by rw [if_neg hji] at hq; exact hq) hqc⟩
theorem Written.thaw (h : Written w wr N cp g f) {i k : Nat} (hi : i < N) (hk : k < cp i) : (∃ v, wr.cell? ⟨g i, k, none⟩ = some v) ∧ wr.frozen? ⟨g i, k, none⟩ = false := by
  obtain ⟨cu, t, fr, h1, h2, h3, h4⟩ := h.row i hi (by omega)
  constructor
  · exact ⟨cu[k]'(by omega), by
      have : k < cu.size := by omega
      simp [World.cell?, h1, this]⟩
  · simp only [World.frozen?, h1]
    have := h2.out k (by omega)
    simp only [Bool.and_eq_false_iff, decide_eq_false_iff_not]
    omega
theorem Written.byte (h : Written w wr N cp g cp) {i k : Nat} (hi : i < N) (hk : k < cp i) : wr.cell? ⟨g i, k, none⟩ = some (.int .u8 (IntKind.u8.wrap ((i : Int) + 1))) := by
  obtain ⟨cu, t, fr, h1, h2, h3, h4⟩ := h.row i hi (by omega)
  simp only [World.cell?, h1]
  exact h4 k hk hk
end
theorem Written.drew {w wr : World} {N : Nat} {cp g f : Nat → Nat} (h : Written w wr N cp g f) : Written w wr.drew N cp g f := ⟨h.os, h.tape, h.output, h.size, h.same, h.row⟩


/-- vestrylaw01.Lent -/
def primLent : List OV → Option (List OV × List OV)
  | [.flat (.val (.sl none xs))] => match xs.all isByte && Nat.ble (xs.length + 1) 140737488355328 with
    | true => some ([.flat (.own none xs [.int .u8 77])], [])
    | false => none
  | _ => none
theorem map_toI {xs : List PV} (hb : xs.all isByte = true) : (xs.map PV.toI).map (PV.int .u8) = xs := by
  induction xs with
  | nil => rfl
  | cons x r ih =>
    simp only [List.all_cons, Bool.and_eq_true] at hb
    simp only [List.map_cons]
    rw [ih hb.2, ← isByte_inv hb.1]
theorem primLent_spec {P : Program} {f : FuncId} (hn : ∀ w : World, Calls P f #[.slice none 0 0] w fun e w' => ∃ v', e = .returned v' ∧ NewRow w w' [] [.int .u8 77] v')
    (ha : ∀ (a : Addr) (n c : Nat) (xs : List Int) (w : World), xs.length = n → n + 1 ≤ 140737488355328 → (∀ i, i < n → w.cell? (a.add i) = some (.int .u8 (xs.getD i 0))) →
      Calls P f #[.slice (some a) n c] w fun e w' => ∃ v', e = .returned v' ∧ NewRow w w' (xs.map (PV.int .u8)) [.int .u8 77] v')
    {os : List OV} {rr : List OV × List OV} (hp : primLent os = some rr) : CallSpec P f os rr.1 rr.2 := by
  unfold primLent at hp
  split at hp
  · rename_i xs
    split at hp
    · rename_i hc
      cases hp
      simp only [Bool.and_eq_true] at hc
      obtain ⟨hb, hl⟩ := hc
      rw [Nat.ble_eq] at hl
      refine newRow_spec (os := [.sl none xs]) (fun x hx => isByte_cell (List.all_eq_true.1 hb x hx)) fun w us hlen hr => ?_
      match us, hlen with
      | [u], _ =>
        obtain ⟨O, hu⟩ := hr 0 _ rfl
        obtain ⟨A, c, rfl, h2, h3, h4⟩ := bytes_read hb hu
        cases A with
        | none =>
          have : c = 0 := h3 rfl
          subst this
          have hx : xs = [] := List.length_eq_zero_iff.1 (by omega)
          subst hx
          exact hn w
        | some a =>
          have := ha a xs.length c (xs.map PV.toI) w (by simp) hl (h4 a rfl)
          rw [map_toI hb] at this
          exact this
    · cases hp
  · cases hp

/-- vestrylaw01.Owned -/
def isRowB : FV → Bool
  | .own none _ _ => true
  | .nil none => true
  | _ => false
def primOwned : List OV → Option (List OV × List OV)
  | [.cont .nest cs] => match cs.all isRowB && Nat.ble cs.length 1000000 with
    | true => some ([.flat (.val (.bool true))], [.flat .gone])
    | false => none
  | _ => none
def rowA : Value → Option Addr
  | .slice A _ _ => A
  | _ => none
def rowN : Value → Nat
  | .slice _ n _ => n
  | _ => 0
def rowC : Value → Nat
  | .slice _ _ c => c
  | _ => 0
def rowG : Value → Nat
  | .slice (some a) _ _ => a.block
  | _ => 0
theorem rowB_rep {w : World} {O : Nat → Prop} {f : FV} {u : Value} {m : Option Nat} (hf : isRowB f = true) (h : FRep w O f u m) : u = .slice (rowA u) (rowN u) (rowC u) ∧ rowN u ≤ rowC u ∧ rowC u ≤ 9223372036854775807 ∧
    (0 < rowC u → rowA u = some ⟨rowG u, 0, none⟩ ∧ m = some (rowG u) ∧ ∃ cu t fr, w.heap[rowG u]? = some (.cells cu t fr) ∧ Thawed cu fr ∧ rowC u ≤ cu.size) := by
  cases h with
  | val => cases hf
  | nil => exact ⟨rfl, Nat.le_refl _, Nat.zero_le _, fun h => absurd h (Nat.lt_irrefl _)⟩
  | ownE => exact ⟨rfl, Nat.le_refl _, Nat.zero_le _, fun h => absurd h (Nat.lt_irrefl _)⟩
  | own sh xs sp b c cur e fr us h =>
    have hsh : sh = none := by
      cases sh with
      | none => rfl
      | some => cases hf
    subst hsh
    exact ⟨rfl, h.len, h.capL, fun _ => ⟨rfl, rfl, cur, e, fr, h.heap, h.thaw, by
      have := h.size
      simp only [shN, Nat.mul_one] at this
      exact this⟩⟩
  | gone => cases hf
theorem primOwned_spec {P : Program} {f : FuncId} (hn : ∀ (A : Option Addr) (w : World), Calls P f #[.slice A 0 0] w fun e w' => e = .returned (.bool true) ∧ w'.heap = w.heap ∧ w'.os = w.os ∧ w'.tape = w.tape ∧ w'.output = w.output)
    (ha : ∀ (w : World) (b N c0 : Nat) (A : Nat → Option Addr) (n cp g : Nat → Nat), RowsOf w b N A n cp g → N ≤ 4611686018427387904 →
      Calls P f #[.slice (some ⟨b, 0, none⟩) N c0] w fun e w' => e = .returned (.bool true) ∧ Written w w' N cp g cp)
    {os : List OV} {rr : List OV × List OV} (hp : primOwned os = some rr) : CallSpec P f os rr.1 rr.2 := by
  unfold primOwned at hp
  split at hp
  · rename_i cs
    split at hp
    · rename_i hc
      cases hp
      simp only [Bool.and_eq_true] at hc
      obtain ⟨hb, hl⟩ := hc
      rw [Nat.ble_eq] at hl
      intro w Oc us ab hlen hOc hS
      match us, hlen with
      | [u], _ =>
        have out : ∀ w' : World, Grow w w' ab → CallOut w w' Oc ab [u] [.flat (.val (.bool true))] [.flat .gone] (.bool true) := by
          intro w' _
          refine ⟨⟨1, startSlots 1 [.flat (.val (.bool true))], fun _ => .bool true, fun _ _ => none, ⟨fun t => ?_, fun t c t' c' k q => (by cases q), fun t c k q => (by cases q)⟩, fun t c k q => (by cases q), Nat.le_refl _, fun i o hi hg => ?_, fun j o hj => ?_, rfl⟩⟩
          · rw [get_start]
            split
            · cases ht : t - 1 with
              | zero => exact .flat _ _ _ (.val _ _ (.bool true))
              | succ k => exact fun _ => rfl
            · exact fun _ => rfl
          · cases i with
            | zero => simp at hi; exact absurd hi.symm hg
            | succ i => simp at hi
          · cases j with
            | zero => simp at hj; subst hj; rfl
            | succ j => simp at hj
        have hr := hS.rep 0
        have hr : ORep w (ab.off Oc) (.cont .nest cs) u (ab 0 none) (fun j => ab 0 (some j)) := hr
        generalize hm : ab 0 none = m at hr
        generalize hβ : (fun j => ab 0 (some j)) = β at hr
        cases hr with
        | nestE A =>
          refine (hn A w).mono fun e w' ⟨he, h1, h2, h3, h4⟩ => ?_
          have hG : Grow w w' ab := ⟨h2, h3, h4, by rw [h1]; exact Nat.le_refl _, fun k _ _ => by rw [h1]⟩
          exact ⟨_, he, hG, out w' hG⟩
        | nest _ b c cur e fr _ hbk ht hcs hlc hk hg hcell =>
          have hv : ∀ j, j < cs.length → ∃ u, cur[j]? = some u ∧ isRowB (cs.getD j .gone) = true ∧ FRep w (ab.off Oc) (cs.getD j .gone) u (β j) := by
            intro j hj
            have hf : cs[j]? = some cs[j] := List.getElem?_eq_getElem hj
            obtain ⟨u, h1, h2⟩ := hcell.rep j _ hf
            have e1 : cs.getD j .gone = cs[j] := by simp [List.getD, hf]
            rw [e1]
            exact ⟨u, h1, List.all_eq_true.1 hb _ (List.getElem_mem hj), h2⟩
          let val : Nat → Value := fun j => cur.getD j Go.undef
          have hval : ∀ j, j < cs.length → cur[j]? = some (val j) ∧ val j = .slice (rowA (val j)) (rowN (val j)) (rowC (val j)) ∧ rowN (val j) ≤ rowC (val j) ∧ rowC (val j) ≤ 9223372036854775807 ∧
              (0 < rowC (val j) → rowA (val j) = some ⟨rowG (val j), 0, none⟩ ∧ ab 0 (some j) = some (rowG (val j)) ∧ ∃ cu t fr, w.heap[rowG (val j)]? = some (.cells cu t fr) ∧ Thawed cu fr ∧ rowC (val j) ≤ cu.size) := by
            intro j hj
            obtain ⟨u, h1, h2, h3⟩ := hv j hj
            have e1 : val j = u := by simp [val, Array.getD_eq_getD_getElem?, h1]
            rw [e1]
            obtain ⟨g1, g2, g3, g4⟩ := rowB_rep h2 h3
            refine ⟨h1, g1, g2, g3, fun hc => ?_⟩
            obtain ⟨k1, k2, k3⟩ := g4 hc
            rw [← hβ] at k2
            exact ⟨k1, k2, k3⟩
          have hR : RowsOf w b cs.length (fun j => rowA (val j)) (fun j => rowN (val j)) (fun j => rowC (val j)) (fun j => rowG (val j)) := by
            refine ⟨fun j hj => ?_, fun j hj => ⟨(hval j hj).2.2.1, (hval j hj).2.2.2.1⟩, fun j hj hc => ?_, fun i j hi hj hci hcj e => ?_⟩
            · have h1 := (hval j hj).1
              simp only [World.cell?, hbk]
              rw [← (hval j hj).2.1]
              simpa using h1
            · obtain ⟨k1, k2, k3⟩ := (hval j hj).2.2.2.2 hc
              refine ⟨k1, fun e => ?_, k3⟩
              have hmb : ab 0 none = some b := hm
              rw [e] at k2
              have := (hS.inj _ _ _ _ _ hmb k2).2
              cases this
            · obtain ⟨_, k2, _⟩ := (hval i hi).2.2.2.2 hci
              obtain ⟨_, l2, _⟩ := (hval j hj).2.2.2.2 hcj
              rw [e] at k2
              have := (hS.inj _ _ _ _ _ k2 l2).2
              cases this
              rfl
          refine (ha w b cs.length c _ _ _ _ hR (by omega)).mono fun e' w' ⟨he, hW⟩ => ?_
          have hG : Grow w w' ab := ⟨hW.os, hW.tape, hW.output, by rw [hW.size]; exact Nat.le_refl _, fun k _ hk => hW.same k fun j hj hc e => hk ⟨0, some j, by rw [((hval j hj).2.2.2.2 hc).2.1, e]⟩⟩
          exact ⟨_, he, hG, out w' hG⟩
    · cases hp
  · cases hp

/-- Bytes made a string. -/
theorem bytes_string {P : Program} {w : World} {xs : List PV} {A : Option Addr} {c : Nat} (hb : xs.all isByte = true) (hA : A = none → c = 0) (hc : xs.length ≤ c)
    (h : ∀ a, A = some a → ∀ i, i < xs.length → w.cell? (a.add i) = some (.int .u8 ((xs.map PV.toI).getD i 0))) :
    ∃ s : ByteArray, (Conv.bytesToString (.slice A xs.length c)).run P w = .ok (.string s) w ∧ s.toList = xs.map u8Of := by
  cases A with
  | none =>
    have : c = 0 := hA rfl
    have hx : xs = [] := List.length_eq_zero_iff.1 (by omega)
    subst hx
    exact ⟨.empty, by simp [Conv.bytesToString], by simp [ByteArray.toList_eq]⟩
  | some a =>
    have hl := run_loadCells_list (P := P) w a ((xs.map PV.toI).map (Value.int .u8)) (fun j v hj => by
      rw [List.getElem?_map, Option.map_eq_some_iff] at hj
      obtain ⟨n, hn, rfl⟩ := hj
      have hjl : j < xs.length := by simpa using (List.getElem?_eq_some_iff.1 hn).1
      rw [h a rfl j hjl]
      simp [List.getD, hn])
    simp only [List.length_map] at hl
    have hb' := run_bytesToString (P := P) w a xs.length c (xs.map PV.toI) hl
    refine ⟨_, hb', ?_⟩
    rw [ByteArray.toList_eq, fold_push]
    have : ∀ l : List PV, l.all isByte = true → (l.map PV.toI).map (fun n => UInt8.ofNat n.toNat) = l.map u8Of := by
      intro l
      induction l with
      | nil => intro _; rfl
      | cons x r ih =>
        intro hl
        simp only [List.all_cons, Bool.and_eq_true] at hl
        simp only [List.map_cons]
        rw [ih hl.2, isByte_inv hl.1]
        rfl
    rw [this xs hb]
    simp

/-- vestrylaw01.Kept -/
def primKept : List OV → Option (List OV × List OV)
  | [.flat (.own none ys (s :: sp)), .flat (.val (.sl none xs))] => match ys.all isByte && xs.all isByte && isByte s && Nat.ble (xs.length + 1) 140737488355328 with
    | true => some ([.flat (.val (.bool ((ys.map u8Of == xs.map u8Of) && (s.toI == 77))))], [.flat (.own none ys (s :: sp)), .flat .gone])
    | false => none
  | _ => none
theorem primKept_spec {P : Program} {f : FuncId}
    (hno : ∀ (A0 : Option Addr) (n c : Nat) (A1 : Option Addr) (m c1 : Nat) (s0 s1 : ByteArray) (w : World), (Conv.bytesToString (.slice A0 n c)).run P w = .ok (.string s0) w → (Conv.bytesToString (.slice A1 m c1)).run P w = .ok (.string s1) w → (s0.toList == s1.toList) = false →
      Calls P f #[.slice A0 n c, .slice A1 m c1] w fun e w' => e = .returned (.bool false) ∧ w' = w)
    (hyes : ∀ (b n c : Nat) (A1 : Option Addr) (m c1 : Nat) (s0 s1 : ByteArray) (z : Int) (w : World), (Conv.bytesToString (.slice (some ⟨b, 0, none⟩) n c)).run P w = .ok (.string s0) w → (Conv.bytesToString (.slice A1 m c1)).run P w = .ok (.string s1) w → (s0.toList == s1.toList) = true →
      m + 1 ≤ c → m + 1 ≤ 140737488355328 → w.cell? ⟨b, m, none⟩ = some (.int .u8 z) → Calls P f #[.slice (some ⟨b, 0, none⟩) n c, .slice A1 m c1] w fun e w' => e = .returned (.bool (z == 77)) ∧ w' = w)
    {os : List OV} {rr : List OV × List OV} (hp : primKept os = some rr) : CallSpec P f os rr.1 rr.2 := by
  unfold primKept at hp
  split at hp
  · rename_i ys s sp xs
    split at hp
    · rename_i hc
      cases hp
      simp only [Bool.and_eq_true] at hc
      obtain ⟨⟨⟨hby, hbx⟩, hs⟩, hl⟩ := hc
      rw [Nat.ble_eq] at hl
      intro w Oc us ab hlen hOc hS
      match us, hlen with
      | [u0, u1], _ =>
        have out : ∀ r : Bool, CallOut w w Oc ab [u0, u1] [.flat (.val (.bool r))] [.flat (.own none ys (s :: sp)), .flat .gone] (.bool r) := by
          intro r
          refine ⟨⟨2, startSlots 0 [.flat (.own none ys (s :: sp)), .flat (.val (.sl none xs)), .flat (.val (.bool r))], fun t => if t = 2 then .bool r else [u0, u1].getD t Go.undef, ab, ⟨fun t => ?_, hS.inj, hS.out⟩, fun t c k q => .inl ⟨t, c, q⟩, Nat.le_refl _, fun i o hi hg => ?_, fun j o hj => ?_, rfl⟩⟩
          · have ht := hS.rep t
            rw [get_start, if_pos (Nat.zero_le _), Nat.sub_zero] at ht ⊢
            match t with
            | 0 => exact ht
            | 1 => exact ht
            | 2 =>
              have hd : ∀ c, ab 2 c = none := ht
              show ORep w _ _ _ (ab 2 none) (fun j => ab 2 (some j))
              have e : (fun j => ab 2 (some j)) = fun _ => none := funext fun j => hd _
              rw [hd none, e]
              exact .flat _ _ _ (.val _ _ (.bool r))
            | t + 3 =>
              have e : ([OV.flat (.own none ys (s :: sp)), .flat (.val (.sl none xs)), .flat (.val (.bool r))] : List OV)[t + 3]? = none := by simp
              have e' : ([OV.flat (.own none ys (s :: sp)), .flat (.val (.sl none xs))] : List OV)[t + 3]? = none := by simp
              rw [e'] at ht
              rw [e]
              have hd : ∀ c, ab (t + 3) c = none := ht
              exact hd
          · match i with
            | 0 => simp at hi; subst hi; exact ⟨rfl, rfl, by simp⟩
            | 1 => simp at hi; exact absurd hi.symm hg
            | i + 2 => simp at hi
          · cases j with
            | zero => simp at hj; subst hj; rfl
            | succ j => simp at hj
        have h0 : ORep w (ab.off Oc) (.flat (.own none ys (s :: sp))) u0 (ab 0 none) (fun j => ab 0 (some j)) := hS.rep 0
        have h1 : ORep w (ab.off Oc) (.flat (.val (.sl none xs))) u1 (ab 1 none) (fun j => ab 1 (some j)) := hS.rep 1
        have hf0 := (ORep.flat_inv h0).1
        have hv1 := (ORep.flat_inv h1).1.val_inv.1
        obtain ⟨A1, c1, rfl, x2, x3, x4⟩ := bytes_read hbx hv1
        obtain ⟨s1, r1, e1⟩ := bytes_string (P := P) hbx x3 x2 x4
        generalize ab 0 none = m0 at hf0
        cases hf0 with
        | own _ _ _ b c cur e fr vs h =>
          have hcell : ∀ i, i < ys.length → w.cell? ((⟨b, 0, none⟩ : Addr).add i) = some (.int .u8 ((ys.map PV.toI).getD i 0)) := by
            intro i hi
            have hy : ys[i]? = some ys[i] := List.getElem?_eq_getElem hi
            have hbi : isByte ys[i] = true := List.all_eq_true.1 hby _ (List.getElem_mem hi)
            have hcs := cells_of_isCell (isByte_cell hbi)
            have g1 := h.at_ i ys[i] 0 ys[i] hy (by rw [hcs]; rfl)
            have g2 := h.rep i ys[i] 0 ys[i] hy (by rw [hcs]; rfl)
            rw [isByte_inv hbi] at g2
            rw [g2.int_inv] at g1
            simp only [shN, Nat.mul_one, Nat.add_zero] at g1
            rw [addr_add]
            simp only [World.cell?, h.heap, Nat.zero_add]
            rw [show (ys.map PV.toI).getD i 0 = ys[i].toI by simp [List.getD, hy]]
            simpa using g1
          obtain ⟨s0, r0, e0⟩ := bytes_string (P := P) (A := some ⟨b, 0, none⟩) (c := c) hby (by simp) h.len (by intro a ha i hi; cases ha; exact hcell i hi)
          by_cases heq : ys.map u8Of = xs.map u8Of
          · have hle : ys.length = xs.length := by simpa using congrArg List.length heq
            obtain ⟨u, g1, g2⟩ := h.spare 0 s rfl
            rw [isByte_inv hs] at g2
            have := g2.int_inv
            subst this
            simp only [shN, Nat.mul_one, Nat.add_zero] at g1
            have hlt : ys.length < cur.size := (Array.getElem?_eq_some_iff.1 g1).1
            have hsz : ys.length + 1 ≤ c := by
              have := h.spL
              simp only [List.length_cons] at this
              omega
            refine (hyes b ys.length c A1 xs.length c1 s0 s1 s.toI w r0 r1 (by rw [e0, e1]; simpa using heq) (by omega) hl (by rw [← hle]; simp only [World.cell?, h.heap]; simpa using g1)).mono fun e' w' ⟨he, hw⟩ => ?_
            subst hw
            refine ⟨_, he, Grow.refl _ _, ?_⟩
            have e2 : ((ys.map u8Of == xs.map u8Of) && (s.toI == 77)) = (s.toI == 77) := by simp [heq]
            rw [e2]
            exact out _
          · refine (hno (some ⟨b, 0, none⟩) ys.length c A1 xs.length c1 s0 s1 w r0 r1 (by rw [e0, e1]; simpa using heq)).mono fun e' w' ⟨he, hw⟩ => ?_
            subst hw
            refine ⟨_, he, Grow.refl _ _, ?_⟩
            have e2 : ((ys.map u8Of == xs.map u8Of) && (s.toI == 77)) = false := by simp [heq]
            rw [e2]
            exact out _
    · cases hp
  · cases hp
end Go.Ev

namespace Go.Lib
section
variable {P : Program} (w : World)
/-- The entry internal/bytealg.IndexByte, at whatever address. -/
theorem run_indexByteAt (a : Addr) (n c : Nat) (xs : List Int) (hx : xs.length = n) (hc : ∀ i, i < n → w.cell? (a.add i) = some (.int .u8 (xs.getD i 0))) (cv : Int) :
    (Extern.BytealgIndexByte.indexByte #[.slice (some a) n c, .int .u8 cv]).run P w = .ok (.int .i64 (indexByte (bytesOf xs) cv.toNat.toUInt8)) w := by
  have hl := run_loadBytesX (P := P) w xs a .empty (fun j x hj => by
    have hjl : j < xs.length := (List.getElem?_eq_some_iff.1 hj).1
    rw [hc j (by omega), List.getD_eq_getElem?_getD, hj]
    rfl)
  rw [hx] at hl
  have hs := run_indexByteString (P := P) ⟨(bytesOf xs).toArray⟩ cv w
  have he : (⟨ByteArray.empty.data ++ (bytesOf xs).toArray⟩ : ByteArray) = ⟨(bytesOf xs).toArray⟩ := by
    apply ByteArray.ext
    show (#[] : Array UInt8) ++ (bytesOf xs).toArray = (bytesOf xs).toArray
    simp
  rw [he] at hl
  change Sem.run P (do
    let b ← Extern.Bytes.bytesOf (.slice (some a) n c)
    let c ← Extern.Bytes.asByte (.int .u8 cv)
    match (List.range b.size).find? fun i => b[i]! == c with
    | some i => pure (goInt i)
    | none => pure (goInt (-1))) w = _
  change Sem.run P (do
    let b ← Extern.Bytes.bytesOf (.string ⟨(bytesOf xs).toArray⟩)
    let c ← Extern.Bytes.asByte (.int .u8 cv)
    match (List.range b.size).find? fun i => b[i]! == c with
    | some i => pure (goInt i)
    | none => pure (goInt (-1))) w = _ at hs
  simp only [Extern.Bytes.bytesOf, Sem.run_bind, Sem.run_pure, hl, Result.andThen] at hs ⊢
  exact hs
end
end Go.Lib
namespace Go.Ev

theorem bytesOf_u8 {xs : List PV} (h : xs.all isByte = true) : Lib.bytesOf (xs.map PV.toI) = xs.map u8Of := by
  simp only [Lib.bytesOf, List.map_map]
  refine List.map_congr_left fun x hx => ?_
  have := isByte_inv (List.all_eq_true.1 h x hx)
  rw [this]
  rfl
/-- bytes.IndexByte. -/
def primIndexByte : List OV → Option (List OV × List OV)
  | [.flat (.val (.sl none xs)), .flat (.val (.int .u8 c))] => match xs.all isByte with
    | true => some ([.flat (.val (.int .i64 (Lib.indexByte (xs.map u8Of) c.toNat.toUInt8)))], [])
    | false => none
  | _ => none
theorem primIndexByte_spec {P : Program} {f : FuncId} (h : ∀ (A : Option Addr) (n c : Nat) (xs : List Int) (cv : Int) (w : World), xs.length = n → (A = none → n = 0) → (∀ a, A = some a → ∀ i, i < n → w.cell? (a.add i) = some (.int .u8 (xs.getD i 0))) →
      Calls P f #[.slice A n c, .int .u8 cv] w fun e w' => e = .returned (.int .i64 (Lib.indexByte (Lib.bytesOf xs) cv.toNat.toUInt8)) ∧ w' = w)
    {os : List OV} {rr : List OV × List OV} (hp : primIndexByte os = some rr) : CallSpec P f os rr.1 rr.2 := by
  unfold primIndexByte at hp
  split at hp
  · rename_i xs c
    split at hp
    · rename_i hb
      cases hp
      refine quiet_spec (os := [.sl none xs, .int .u8 c]) (rs := [.int .i64 (Lib.indexByte (xs.map u8Of) c.toNat.toUInt8)]) fun w us hl hr => ?_
      match us, hl with
      | [x, y], _ =>
        obtain ⟨O, hx⟩ := hr 0 _ rfl
        obtain ⟨O', hy⟩ := hr 1 _ rfl
        obtain ⟨A, c1, h1, h2, h3, h4⟩ := bytes_read hb hx
        have hy' := hy.int_inv
        simp only [List.getD_cons_zero, List.getD_cons_succ] at h1 hy'
        subst h1 hy'
        have := h A xs.length c1 (xs.map PV.toI) c w (by simp) (fun e => by have := h3 e; omega) (fun a ha i hi => h4 a ha i hi)
        rw [bytesOf_u8 hb] at this
        refine this.mono fun e w' ⟨he, hw⟩ => ⟨fun _ => .int .i64 (Lib.indexByte (xs.map u8Of) c.toNat.toUInt8), he, hw, fun j p hj => ?_⟩
        match j, hj with
        | 0, rfl => exact fun w O => .int _ _
    · cases hp
  · cases hp
/-- bytes.Count of one byte. -/
def primCountOne : List OV → Option (List OV × List OV)
  | [.flat (.val (.sl none xs)), .flat (.val (.sl none [.int .u8 c]))] => match xs.all isByte with
    | true => some ([.flat (.val (.int .i64 ((Lib.countByte (xs.map u8Of) c.toNat.toUInt8 : Nat) : Int)))], [])
    | false => none
  | _ => none
theorem primCountOne_spec {P : Program} {f : FuncId} (h : ∀ (A : Option Addr) (n c : Nat) (xs : List Int) (a2 : Addr) (d : Nat) (cv : Int) (w : World), xs.length = n → (A = none → n = 0) → (∀ a, A = some a → ∀ i, i < n → w.cell? (a.add i) = some (.int .u8 (xs.getD i 0))) →
      w.cell? a2 = some (.int .u8 cv) → Calls P f #[.slice A n c, .slice (some a2) 1 d] w fun e w' => e = .returned (.int .i64 ((Lib.countByte (Lib.bytesOf xs) cv.toNat.toUInt8 : Nat) : Int)) ∧ w' = w)
    {os : List OV} {rr : List OV × List OV} (hp : primCountOne os = some rr) : CallSpec P f os rr.1 rr.2 := by
  unfold primCountOne at hp
  split at hp
  · rename_i xs c
    split at hp
    · rename_i hb
      cases hp
      refine quiet_spec (os := [.sl none xs, .sl none [.int .u8 c]]) (rs := [.int .i64 ((Lib.countByte (xs.map u8Of) c.toNat.toUInt8 : Nat) : Int)]) fun w us hl hr => ?_
      match us, hl with
      | [x, y], _ =>
        obtain ⟨O, hx⟩ := hr 0 _ rfl
        obtain ⟨O', hy⟩ := hr 1 _ rfl
        obtain ⟨A, c1, h1, h2, h3, h4⟩ := bytes_read hb hx
        obtain ⟨A2, c2, g1, g2, g3, g4, g5⟩ := hy.sl_inv
        simp only [List.getD_cons_zero, List.getD_cons_succ, List.length_cons, List.length_nil, Nat.zero_add] at h1 g1 g2
        subst h1 g1
        obtain ⟨_, a2, z, e1, _, e2, e3⟩ := g5 0 (.int .u8 c) 0 (.int .u8 c) rfl rfl
        have := e3.int_inv
        subst e1 this
        have e4 : a2.add (0 * shN none + 0) = a2 := by simp [Addr.add]
        rw [e4] at e2
        have := h A xs.length c1 (xs.map PV.toI) a2 c2 c w (by simp) (fun e => by have := h3 e; omega) (fun a ha i hi => h4 a ha i hi) e2
        rw [bytesOf_u8 hb] at this
        refine this.mono fun e w' ⟨he, hw⟩ => ⟨fun _ => .int .i64 ((Lib.countByte (xs.map u8Of) c.toNat.toUInt8 : Nat) : Int), he, hw, fun j p hj => ?_⟩
        match j, hj with
        | 0, rfl => exact fun w O => .int _ _
    · cases hp
  · cases hp
/-- bytes.Compare. -/
def primBytesCompare : List OV → Option (List OV × List OV)
  | [.flat (.val (.sl none xs)), .flat (.val (.sl none ys))] => match xs.all isByte && ys.all isByte with
    | true => some ([.flat (.val (.int .i64 (Lib.compareBytes (xs.map u8Of) (ys.map u8Of))))], [])
    | false => none
  | _ => none
theorem primBytesCompare_spec {P : Program} {f : FuncId} (h : ∀ (A : Option Addr) (n c : Nat) (xs : List Int) (B : Option Addr) (m d : Nat) (ys : List Int) (w : World), xs.length = n → (A = none → n = 0) → (∀ a, A = some a → ∀ i, i < n → w.cell? (a.add i) = some (.int .u8 (xs.getD i 0))) →
      ys.length = m → (B = none → m = 0) → (∀ a, B = some a → ∀ i, i < m → w.cell? (a.add i) = some (.int .u8 (ys.getD i 0))) →
      Calls P f #[.slice A n c, .slice B m d] w fun e w' => e = .returned (.int .i64 (Lib.compareBytes (Lib.bytesOf xs) (Lib.bytesOf ys))) ∧ w' = w)
    {os : List OV} {rr : List OV × List OV} (hp : primBytesCompare os = some rr) : CallSpec P f os rr.1 rr.2 := by
  unfold primBytesCompare at hp
  split at hp
  · rename_i xs ys
    split at hp
    · rename_i hb
      cases hp
      simp only [Bool.and_eq_true] at hb
      obtain ⟨hb1, hb2⟩ := hb
      refine quiet_spec (os := [.sl none xs, .sl none ys]) (rs := [.int .i64 (Lib.compareBytes (xs.map u8Of) (ys.map u8Of))]) fun w us hl hr => ?_
      match us, hl with
      | [x, y], _ =>
        obtain ⟨O, hx⟩ := hr 0 _ rfl
        obtain ⟨O', hy⟩ := hr 1 _ rfl
        obtain ⟨A, c1, h1, h2, h3, h4⟩ := bytes_read hb1 hx
        obtain ⟨B, c2, g1, g2, g3, g4⟩ := bytes_read hb2 hy
        simp only [List.getD_cons_zero, List.getD_cons_succ] at h1 g1
        subst h1 g1
        have := h A xs.length c1 (xs.map PV.toI) B ys.length c2 (ys.map PV.toI) w (by simp) (fun e => by have := h3 e; omega) (fun a ha i hi => h4 a ha i hi) (by simp) (fun e => by have := g3 e; omega) (fun a ha i hi => g4 a ha i hi)
        rw [bytesOf_u8 hb1, bytesOf_u8 hb2] at this
        refine this.mono fun e w' ⟨he, hw⟩ => ⟨fun _ => .int .i64 (Lib.compareBytes (xs.map u8Of) (ys.map u8Of)), he, hw, fun j p hj => ?_⟩
        match j, hj with
        | 0, rfl => exact fun w O => .int _ _
    · cases hp
  · cases hp
end Go.Ev

namespace Go.Ev

section
variable {P : Program}

/-- A function that reads what it takes, gives what owns nothing, and makes blocks of its own at most. -/
theorem fresh_spec {f : FuncId} {os rs : List PV}
    (h : ∀ (w : World) (us : List Value), us.length = os.length → (∀ (j : Nat) (p : PV), os[j]? = some p → ∃ O, RepV w O p (us.getD j Go.undef)) →
      Calls P f us.toArray w fun e w' => ∃ vs : Nat → Value, e = .returned (resultVal rs.length vs) ∧ Go.RowKit.Below w.heap.size w w' ∧ ∀ (j : Nat) (p : PV), rs[j]? = some p → ∀ w O, RepV w O p (vs j)) :
    CallSpec P f (os.map fun v => .flat (.val v)) (rs.map fun v => .flat (.val v)) [] := by
  intro w Oc us ab hlen hOc hS
  have hl : us.length = os.length := by simpa using hlen
  refine (h w us hl fun j p hj => ?_).mono fun e w' ⟨vs, he, hw, hr⟩ => ?_
  · have hr := hS.rep j
    rw [get_start, if_pos (Nat.zero_le _), Nat.sub_zero, List.getElem?_map, hj] at hr
    exact ⟨_, (ORep.flat_inv hr).1.val_inv.1⟩
  · refine ⟨_, he, ⟨hw.os, hw.tape, hw.output, hw.size, fun k hk _ => hw.block k hk⟩, ⟨⟨us.length, startSlots us.length (rs.map fun v => .flat (.val v)), fun t => vs (t - us.length), fun _ _ => none, ?_, fun t c k q => (by cases q), Nat.le_refl _, fun i o hi => (by simp at hi), fun j o hj => ?_, ?_⟩⟩⟩
    · refine ⟨fun t => ?_, fun t c t' c' k q => (by cases q), fun t c k q => (by cases q)⟩
      rw [get_start]
      split
      · rename_i hle
        rw [List.getElem?_map]
        cases hv : rs[t - us.length]? with
        | none => exact fun _ => rfl
        | some v => exact .flat _ _ _ (.val _ _ (hr _ _ hv _ _))
      · exact fun _ => rfl
    · rw [get_start, if_pos (by omega), Nat.add_sub_cancel_left, hj]
    · simp [Nat.add_sub_cancel_left]

/-- strings.ReplaceAll, of "it's": each quote doubled. -/
def primQuote : List OV → Option (List OV × List OV)
  | [.flat (.val (.str s)), .flat (.val (.str o)), .flat (.val (.str n))] =>
    match s == [105, 116, 39, 115] && (o == [39] && n == [39, 39]) with
    | true => some ([.flat (.val (.str [105, 116, 39, 39, 115]))], [])
    | false => none
  | _ => none
theorem primQuote_spec {f : FuncId} (h : ∀ w : World, Calls P f #[.string ⟨#[105, 116, 39, 115]⟩, .string ⟨#[39]⟩, .string ⟨#[39, 39]⟩] w fun e w' => e = .returned (.string ⟨#[105, 116, 39, 39, 115]⟩) ∧ Go.RowKit.Below w.heap.size w w')
    {os : List OV} {rr : List OV × List OV} (hp : primQuote os = some rr) : CallSpec P f os rr.1 rr.2 := by
  unfold primQuote at hp
  split at hp
  · rename_i s o n
    split at hp
    · rename_i hb
      cases hp
      simp only [Bool.and_eq_true, beq_iff_eq] at hb
      obtain ⟨rfl, rfl, rfl⟩ := hb
      refine fresh_spec (os := [.str [105, 116, 39, 115], .str [39], .str [39, 39]]) (rs := [.str [105, 116, 39, 39, 115]]) fun w us hl hr => ?_
      match us, hl with
      | [x, y, z], _ =>
        obtain ⟨O, hx⟩ := hr 0 _ rfl
        obtain ⟨O', hy⟩ := hr 1 _ rfl
        obtain ⟨O'', hz⟩ := hr 2 _ rfl
        have ex : x = .string ⟨#[105, 116, 39, 115]⟩ := by
          obtain ⟨⟨⟨b⟩⟩, h1, h2⟩ := hx.str_inv
          have h2 : b = [105, 116, 39, 115] := h2
          rw [h2] at h1
          exact h1
        have ey : y = .string ⟨#[39]⟩ := by
          obtain ⟨⟨⟨b⟩⟩, h1, h2⟩ := hy.str_inv
          have h2 : b = [39] := h2
          rw [h2] at h1
          exact h1
        have ez : z = .string ⟨#[39, 39]⟩ := by
          obtain ⟨⟨⟨b⟩⟩, h1, h2⟩ := hz.str_inv
          have h2 : b = [39, 39] := h2
          rw [h2] at h1
          exact h1
        subst ex ey ez
        refine (h w).mono fun e w' ⟨he, hw⟩ => ⟨fun _ => .string ⟨#[105, 116, 39, 39, 115]⟩, he, hw, fun j p hj => ?_⟩
        match j, hj with
        | 0, rfl => exact fun w O => .str ⟨#[105, 116, 39, 39, 115]⟩
    · cases hp
  · cases hp
end
end Go.Ev

namespace Go.Ev

section
variable {H : Type} {enc : TypeId × Value → H} {P : Program}
theorem law_direct {P : Program} {f : FuncId} {fn : Func} {s : ChangeSpec} {T : List TypeId} {tb : TypeId} {W : World} {base : Nat} {args : Array Value} {ds gs : List (DataW H)} {before : List MemPlace}
    (hl : laidOutB P = true) (hT : goodT P T = true) (hts : ∀ t ∈ fn.params.toList, t ∈ T)
    (hvars : s.vars = []) (hspec : ∀ ds : List (DataW H), ds.length = fn.params.size → s.fn H ds = { results := [.lit (.bool true)], args := ds }) (hres : fn.resultTypes = #[tb]) (htb : P.underlying tb = some .bool)
    (hval : ∀ (j : Nat) t v, fn.params[j]? = some t → args[j]? = some v → Value.okWide P W .any base t v) (hW : DataW.Whole enc P fn.params.toList s.vars false W args.toList ds gs before)
    (hlaw : ∀ vs, TypedAll P fn.params.toList vs → vs.length = args.toList.length → (∀ (j : Nat) v u, vs[j]? = some v → args.toList[j]? = some u → RepV W (fun _ => False) v u) → pvBulks vs ≤ dBulks (ds ++ gs) →
      Calls P f args W fun e W' => e = .returned (.bool true) ∧ W'.os = W.os ∧ W'.output = W.output ∧ ∀ k, k < W.heap.size → W'.heap[k]? = W.heap[k]?) :
    Calls P f args W fun e W' => ∃ v, e = .returned v ∧ s.post enc P fn false true false false W args v W' := by
  have K := good_kids hl hT
  have hW' := hW
  obtain ⟨p, q, hA, hV, rfl, hfz, hnd⟩ := hW
  rw [hvars] at hV
  have hgs : gs = [] ∧ q = [] := by
    cases gs with
    | nil => exact ⟨rfl, hV⟩
    | cons => exact hV.elim
  obtain ⟨rfl, rfl⟩ := hgs
  have hlen : ∀ {ts : List TypeId} {us : List Value} {ds : List (DataW H)} {ps : List MemPlace}, DataW.TrodAll enc P W 0 (fun _ => true) true ts us ds ps → us.length = ts.length ∧ ds.length = ts.length := by
    intro ts
    induction ts with
    | nil =>
      intro us ds ps h
      cases us with
      | nil => cases ds with | nil => exact ⟨rfl, rfl⟩ | cons => exact h.elim
      | cons => exact h.elim
    | cons t ts ih =>
      intro us ds ps h
      cases us with
      | nil => exact h.elim
      | cons u us =>
        cases ds with
        | nil => exact h.elim
        | cons d ds =>
          obtain ⟨_, _, _, hr, _⟩ := h
          obtain ⟨a, b⟩ := ih hr
          exact ⟨by simp [a], by simp [b]⟩
  obtain ⟨hl1, hl2⟩ := hlen hA
  obtain ⟨vs, v1, v2, v3, v4⟩ := trodAll_rep hT K fn.params.toList args.toList ds p hts (fun j t u hj hu hs => (okWide_cells (hval j t u (by simpa using hj) (by simpa using hu))).1 hs) (fun j t u n hj hu hs => (okWide_cells (hval j t u (by simpa using hj) (by simpa using hu))).2 n hs) hA
  refine (hlaw vs v1 (by simp [v2]) (fun j v u h1 h2 => (v3 j v u h1 h2).move fun k _ _ => ⟨rfl, fun x => x.elim⟩) (by simpa using v4)).mono fun e W' ⟨he, hos, hout, hsame⟩ => ?_
  have hsp := hspec (ds ++ []) (by simp [hl2])
  refine ⟨_, he, ds, [], p ++ [], [], p, [], hW', ?_, ?_, ?_, ⟨hos, hout, fun i hi => ?_⟩, fun h => by cases h⟩
  · rw [hsp, hres]
    refine ⟨[], [], ⟨1, ?_⟩, rfl, rfl⟩
    simp [DataW.trod, htb, Value.cells]
  · rw [hsp]
    simp only [List.append_nil]
    exact trodAll_stays hT K hsame _ _ _ _ hts hA
  · rw [hsp, hvars]
    exact rfl
  · rw [hsame i hi]
    cases W.heap[i]? with
    | none => trivial
    | some o =>
      cases o with
      | cells c t fr => exact ⟨rfl, rfl, rfl, fun _ _ => rfl⟩
      | map es clock => exact .inr ⟨rfl, rfl⟩
      | _ => exact rfl
/-- What the evaluator says of pure arguments and one pure answer, as a contract. -/
theorem call_flat {C : Ctx} (hN : namesOk C.P = true) (hprim : ∀ g p os rr, C.prim g = some p → p os = some rr → CallSpec C.P g os rr.1 rr.2) {n : Nat} {f : FuncId} {vs : List PV} {r : PV} {outs : List OV}
    (hp : pcall C n f (vs.map fun v => .flat (.val v)) = some ([.flat (.val r)], outs)) {W : World} {args : Array Value} (hlen : vs.length = args.toList.length)
    (hrep : ∀ (j : Nat) v u, vs[j]? = some v → args.toList[j]? = some u → RepV W (fun _ => False) v u) :
    Calls C.P f args W fun e W' => ∃ v, e = .returned v ∧ (∃ O, RepV W' O r v) ∧ Go.RowKit.Below W.heap.size W W' := by
  have hcs := pcall_spec hN hprim n f _ _ hp
  have hS : SRel W (fun _ => False) (startSlots 0 (vs.map fun v => OV.flat (.val v))) (fun t => args.toList.getD t Go.undef) (fun _ _ => none) := by
    refine ⟨fun t => ?_, fun t c t' c' k q => (by cases q), fun t c k q => (by cases q)⟩
    rw [get_start, if_pos (Nat.zero_le _), Nat.sub_zero, List.getElem?_map]
    cases hv : vs[t]? with
    | none => exact fun _ => rfl
    | some v =>
      have hlt := (List.getElem?_eq_some_iff.1 hv).1
      have hu : args.toList[t]? = some (args.toList[t]'(by omega)) := List.getElem?_eq_getElem _
      have hget : args.toList.getD t Go.undef = args.toList[t]'(by omega) := by simp [List.getD, hu]
      show ORep _ _ (.flat (.val v)) (args.toList.getD t Go.undef) _ _
      rw [hget]
      refine .flat _ _ _ (.val _ _ ((hrep t v _ hv hu).move fun k _ _ => ⟨rfl, ?_⟩))
      rintro (⟨_, _, q⟩ | q)
      · cases q
      · exact q
  have hcall := hcs W (fun _ => False) args.toList (fun _ _ => none) (by simp [hlen]) (fun k q => q.elim) hS
  have hargs : args.toList.toArray = args := by simp
  rw [hargs] at hcall
  refine hcall.mono fun e W' ⟨v, he, hG, hco⟩ => ?_
  obtain ⟨N, stO, tmO, ob, k1, _, _, _, k5, k6⟩ := hco.ex
  refine ⟨v, he, ?_, ⟨hG.os, hG.tape, hG.output, hG.size, fun k hk => hG.same k hk fun ⟨_, _, q⟩ => by cases q⟩⟩
  rw [k6]
  have hr := k1.rep (N + 0)
  rw [k5 0 _ rfl] at hr
  exact ⟨_, ((ORep.flat_inv hr).1.val_inv).1⟩

end
end Go.Ev

