/- An evaluator of the model's code over pure data, and why it is right: part 7. -/
import Derived.Test.YtnieankaikhmnaaEvf
import Derived.ChangeArms
import Derived.ChangeBook
import Derived.ChangeStays
import Derived.Lib.Strings
import Derived.Lib.Bytealg
import Derived.Below
import Derived.Laws.AppendOwn
import Derived.Lib.BytesEntry
import Derived.Shelf.Bytes.SlCountOne
import Derived.Laws.Append
import Derived.Lib.Overlaps
import Derived.Laws.Externs
import Derived.Lib.AppendZeros

set_option linter.unusedVariables false

set_option linter.unusedSimpArgs false

set_option linter.unusedSectionVars false

namespace Go.Ev

mutual
/-- How many values and letters pure data holds. -/
def pvBulk : PV → Nat
  | .str s => s.length + 1
  | .sl _ xs => pvBulks xs + 1
  | .agg cs => pvBulks cs
  | .ptr _ v => pvBulk v + 1
  | _ => 1
def pvBulks : List PV → Nat
  | [] => 0
  | x :: r => pvBulk x + pvBulks r
end
mutual
def dBulk {H : Type} : DataW H → Nat
  | .lit (.string bytes) => bytes.length + 1
  | .lit _ => 1
  | .nil => 1
  | .ptr d => dBulk d + 1
  | .slice elems spare => dBulks elems + dBulks spare + 1
  | .agg parts => dBulks parts + 1
  | .iface _ d => dBulk d + 1
  | .map entries => dBulkEs entries + 1
  | .held _ => 1
def dBulks {H : Type} : List (DataW H) → Nat
  | [] => 0
  | d :: r => dBulk d + dBulks r
def dBulkEs {H : Type} : List (Lit × DataW H) → Nat
  | [] => 0
  | x :: r => dBulkE x + dBulkEs r
def dBulkE {H : Type} : Lit × DataW H → Nat
  | (.string bytes, d) => bytes.length + dBulk d + 1
  | (_, d) => dBulk d + 1
end

theorem pvBulks_append (a b : List PV) : pvBulks (a ++ b) = pvBulks a + pvBulks b := by
  induction a with
  | nil => simp [pvBulks]
  | cons x a ih => simp [pvBulks, ih]; omega
theorem pvBulk_cell {v : PV} (h : isCell v = true) : v.cells = [v] := cells_of_isCell h
theorem pvBulks_cells (v : PV) : pvBulks v.cells = pvBulk v := by
  cases v <;> simp [PV.cells, pvBulks, pvBulk]

/-- Cells of a value of this type. -/
def TypedC (P : Program) : Nat → TypeId → List PV → Prop
  | 0, _, _ => False
  | d + 1, t, cs => match P.underlying t with
    | some .bool => ∃ b, cs = [.bool b]
    | some (.int k) => ∃ n, cs = [.int k n] ∧ (Lit.int k n).wf = true
    | some .string => ∃ s, cs = [.str s] ∧ s.length ≤ maxLen
    | some (.slice e) => ∃ sh xs, cs = [.sl sh xs] ∧ tShape P e = some sh ∧ xs.length ≤ maxLen ∧ ∀ x ∈ xs, pvFits sh x = true ∧ TypedC P d e x.cells
    | some (.pointer e) => cs = [.nilp] ∨ ∃ sh x, cs = [.ptr sh x] ∧ tShape P e = some sh ∧ pvFits sh x = true ∧ TypedC P d e x.cells
    | some (.struct fs) => cs.length = P.cellsOf t ∧ ∀ f ∈ fs.toList, TypedC P d f.type ((cs.drop f.offset).take (P.cellsOf f.type))
    | _ => False
def Typed (P : Program) (t : TypeId) (v : PV) : Prop := ∃ d sh, tShape P t = some sh ∧ pvFits sh v = true ∧ TypedC P d t v.cells
inductive TypedAll (P : Program) : List TypeId → List PV → Prop
  | nil : TypedAll P [] []
  | cons (t : TypeId) (v : PV) (ts : List TypeId) (vs : List PV) (h : Typed P t v) (hr : TypedAll P ts vs) : TypedAll P (t :: ts) (v :: vs)

/-- Types that are read: closed, each of one of these kinds. -/
def goodT (P : Program) (T : List TypeId) : Bool := T.all fun t => (match P.underlying t with
  | some .bool => true
  | some (.int _) => true
  | some .string => true
  | some (.slice e) => memN e T && Nat.blt 0 (P.cellsOf e)
  | some (.pointer e) => memN e T
  | some (.struct fs) => fs.toList.all fun f => memN f.type T
  | _ => false) && (tShape P t).isSome && Nat.blt t P.types.size

section
variable {H : Type} {enc : TypeId × Value → H} {P : Program} {w : World}

theorem cells?_spec {a : Addr} {n : Nat} {cs : List Value} (h : w.cells? 0 a n = some cs) : cs.length = n ∧ ∀ j, j < n → ∀ u, cs[j]? = some u → w.cell? (a.add j) = some u := by
  unfold World.cells? at h
  rw [if_pos (Nat.zero_le _)] at h
  have hl := mapM_some_length h
  simp at hl
  refine ⟨hl, fun j hj u hu => ?_⟩
  have := mapM_some_get h j j (by simp [hj])
  rw [this]; exact hu

theorem shN_cellsOf {t : TypeId} {sh : Option Nat} (h : tShape P t = some sh) : shN sh = P.cellsOf t := by
  obtain ⟨i, hi, hs⟩ := tShape_size h
  simp [Program.cellsOf, hi, hs]

theorem shape_struct {t : TypeId} {fs : Array Field} {sh : Option Nat} (hu : P.underlying t = some (.struct fs)) (h : tShape P t = some sh) : ∃ n, sh = some n := by
  unfold tShape at h
  rw [hu] at h
  cases hi : P.info? t with
  | none => rw [hi] at h; cases h
  | some i => rw [hi] at h; exact ⟨i.size, (Option.some.inj h).symm⟩
theorem shape_one {t : TypeId} {d : TypeDesc} {sh : Option Nat} (hu : P.underlying t = some d) (hs : ∀ fs, d ≠ .struct fs) (ha : ∀ n e, d ≠ .array n e) (h : tShape P t = some sh) : sh = none := by
  unfold tShape at h
  rw [hu] at h
  split at h
  · rename_i fs _ _; exact absurd (by simp_all) (hs fs)
  · rename_i n e _ _; exact absurd (by simp_all) (ha n e)
  · split at h <;> simp_all
  · cases h

/-- What cells say. -/
structure RepCells (w : World) (pcs : List PV) (cs : List Value) : Prop where
  len : pcs.length = cs.length
  cell : ∀ (j : Nat) (y : PV), pcs[j]? = some y → isCell y = true ∧ ∃ u, cs[j]? = some u ∧ RepV w (fun _ => False) y u
theorem RepCells.one {y : PV} {u : Value} (hc : isCell y = true) (h : RepV w (fun _ => False) y u) : RepCells w [y] [u] :=
  ⟨rfl, fun j z hj => by
    cases j with
    | zero => simp at hj; subst hj; exact ⟨hc, u, rfl, h⟩
    | succ j => simp at hj⟩

/-- A value of a shape out of its cells. -/
def ofCells (sh : Option Nat) (pcs : List PV) : PV := match sh with
  | none => pcs.headD .undef
  | some _ => .agg pcs
theorem ofCells_fits {sh : Option Nat} {pcs : List PV} (hl : pcs.length = shN sh) (hc : ∀ (j : Nat) (y : PV), pcs[j]? = some y → isCell y = true) : pvFits sh (ofCells sh pcs) = true ∧ (ofCells sh pcs).cells = pcs := by
  cases sh with
  | none =>
    match pcs, hl with
    | [y], _ =>
      have := hc 0 y rfl
      exact ⟨this, cells_of_isCell this⟩
  | some n =>
    have hl : pcs.length = n := hl
    exact ⟨by simp [ofCells, pvFits, hl], rfl⟩

theorem flatten_part (ps : List (List PV)) (sz : Nat → Nat) (hs : ∀ (i : Nat) (p : List PV), ps[i]? = some p → p.length = sz i) (i : Nat) (p : List PV) (hi : ps[i]? = some p) :
    (ps.flatten.drop ((ps.take i).map List.length).sum).take p.length = p := by
  induction ps generalizing i sz with
  | nil => simp at hi
  | cons q ps ih =>
    cases i with
    | zero => simp at hi; subst hi; simp
    | succ i =>
      simp only [List.take_succ_cons, List.map_cons, List.sum_cons, List.flatten_cons]
      rw [List.drop_append, List.drop_eq_nil_of_le (by omega), Nat.add_sub_cancel_left, List.nil_append]
      exact ih (fun i => sz (i + 1)) (fun i p hp => hs (i + 1) p (by simpa using hp)) i (by simpa using hi)

theorem pieces {α β : Type} (Q : Nat → α → β → Prop) : ∀ (l : List α) (n : Nat), (∀ (i : Nat) (x : α), l[i]? = some x → ∃ y, Q (n + i) x y) → ∃ ys : List β, ys.length = l.length ∧ ∀ (i : Nat) (x : α) (y : β), l[i]? = some x → ys[i]? = some y → Q (n + i) x y
  | [], _, _ => ⟨[], rfl, fun i x y h => by simp at h⟩
  | x :: l, n, h => by
    obtain ⟨y, hy⟩ := h 0 x rfl
    obtain ⟨ys, h1, h2⟩ := pieces Q l (n + 1) (fun i z hz => by
      obtain ⟨y, hy⟩ := h (i + 1) z (by simpa using hz)
      exact ⟨y, by rw [show n + 1 + i = n + (i + 1) by omega]; exact hy⟩)
    refine ⟨y :: ys, by simp [h1], fun i a b ha hb => ?_⟩
    cases i with
    | zero => simp at ha hb; subst ha; subst hb; exact hy
    | succ i =>
      have := h2 i a b (by simpa using ha) (by simpa using hb)
      rw [show n + (i + 1) = n + 1 + i by omega]; exact this

theorem dBulks_le {ys : List (List PV)} {xs : List (DataW H)} (hl : ys.length = xs.length) (h : ∀ (i : Nat) (y : List PV) (x : DataW H), ys[i]? = some y → xs[i]? = some x → pvBulks y ≤ dBulk x) : pvBulks ys.flatten ≤ dBulks xs := by
  induction ys generalizing xs with
  | nil => simp [pvBulks]
  | cons y ys ih =>
    cases xs with
    | nil => simp at hl
    | cons x xs =>
      have h0 := h 0 y x rfl rfl
      have := ih (xs := xs) (by simpa using hl) fun i a b ha hb => h (i + 1) a b (by simpa using ha) (by simpa using hb)
      simp only [List.flatten_cons, pvBulks_append, dBulks]
      omega
theorem sum_map_len {fs : List Field} {ys : List (List PV)} (hl : ys.length = fs.length) (h : ∀ (i : Nat) (f : Field) (y : List PV), fs[i]? = some f → ys[i]? = some y → y.length = P.cellsOf f.type) (j : Nat) :
    ((ys.take j).map List.length).sum = ((fs.take j).map fun f => P.cellsOf f.type).sum := by
  induction ys generalizing fs j with
  | nil => cases fs with | nil => simp | cons => simp at hl
  | cons y ys ih =>
    cases fs with
    | nil => simp at hl
    | cons f fs =>
      cases j with
      | zero => simp
      | succ j =>
        have h0 := h 0 f y rfl rfl
        have := ih (fs := fs) (by simpa using hl) (fun i a b ha hb => h (i + 1) a b (by simpa using ha) (by simpa using hb)) j
        simp only [List.take_succ_cons, List.map_cons, List.sum_cons, h0, this]

theorem trod_rep {T : List TypeId} (hT : goodT P T = true) (K : Kids P (fun t => t ∈ T)) : ∀ (n : Nat) (t : TypeId) (cs : List Value) (x : DataW H × List MemPlace), t ∈ T → DataW.trod enc P w 0 (fun _ => true) true n t cs = some x →
    ∃ pcs, TypedC P n t pcs ∧ RepCells w pcs cs ∧ pvBulks pcs ≤ dBulk x.1 := by
  intro n
  induction n with
  | zero => intro t cs x _ h; simp [DataW.trod] at h
  | succ n ih =>
    intro t cs x ht h
    have hg := List.all_eq_true.1 hT t ht
    simp only [Bool.and_eq_true] at hg
    obtain ⟨⟨hg, hsh⟩, _⟩ := hg
    have good : ∀ e, e ∈ T → ∃ sh, tShape P e = some sh := fun e he => by
      have := List.all_eq_true.1 hT e he
      simp only [Bool.and_eq_true] at this
      exact Option.isSome_iff_exists.1 this.1.2
    -- what stands at an address
    have atAddr : ∀ (e : TypeId) (a : Addr) (sh : Option Nat) (cs' : List Value) (y : DataW H × List MemPlace), e ∈ T → tShape P e = some sh → w.cells? 0 a (P.cellsOf e) = some cs' → DataW.trod enc P w 0 (fun _ => true) true n e cs' = some y →
        ∃ v, pvFits sh v = true ∧ TypedC P n e v.cells ∧ pvBulk v ≤ dBulk y.1 ∧ (∀ (j : Nat) (z : PV), v.cells[j]? = some z → isCell z = true ∧ ∃ u, w.cell? (a.add j) = some u ∧ RepV w (fun _ => False) z u) := by
      intro e a sh cs' y he hs hc hy
      obtain ⟨pcs, h1, h2, h3⟩ := ih e cs' y he hy
      obtain ⟨l1, l2⟩ := cells?_spec hc
      have hl : pcs.length = shN sh := by rw [h2.len, l1, shN_cellsOf hs]
      obtain ⟨f1, f2⟩ := ofCells_fits hl (fun j z hz => (h2.cell j z hz).1)
      refine ⟨ofCells sh pcs, f1, by rw [f2]; exact h1, by rw [← pvBulks_cells, f2]; exact h3, fun j z hz => ?_⟩
      rw [f2] at hz
      obtain ⟨c1, u, c2, c3⟩ := h2.cell j z hz
      have hj := (List.getElem?_eq_some_iff.1 hz).1
      exact ⟨c1, u, l2 j (by rw [h2.len, l1] at hj; exact hj) u c2, c3⟩
    have hstep := h
    cases hu : P.underlying t with
    | none => rw [hu] at hg; simp at hg
    | some desc =>
      rw [hu] at hg
      cases desc with
      | bool =>
        obtain ⟨b, rfl, rfl⟩ := DataW.trod_bool hu h
        exact ⟨[.bool b], by unfold TypedC; rw [hu]; exact ⟨b, rfl⟩, .one rfl (.bool b), by simp [pvBulks, pvBulk, dBulk]⟩
      | int k =>
        obtain ⟨m, rfl, rfl, hwf⟩ := DataW.trod_int hu h
        exact ⟨[.int k m], by unfold TypedC; rw [hu]; exact ⟨m, rfl, hwf⟩, .one rfl (.int k m), by simp [pvBulks, pvBulk, dBulk]⟩
      | string =>
        obtain ⟨s, rfl, rfl, hmax⟩ := DataW.trod_string hu h
        exact ⟨[.str s.data.toList], by unfold TypedC; rw [hu]; exact ⟨_, rfl, by simpa using hmax⟩, .one rfl (.str s), by simp [pvBulks, pvBulk, dBulk]⟩
      | slice e =>
        simp only [Bool.and_eq_true] at hg
        have he : e ∈ T := (memN_iff _ _).1 hg.1
        obtain ⟨sh, hs⟩ := good e he
        rcases DataW.trod_slice hu h with ⟨rfl, rfl⟩ | ⟨a, len, cap, elems, rest, m, hm, rfl, rfl, _, hlc, hcm, hel, helem, _, _⟩
        · refine ⟨[.sl sh []], ?_, .one rfl (.slNil sh), by simp [pvBulks, pvBulk, dBulk]⟩
          unfold TypedC
          rw [hu]
          exact ⟨sh, [], rfl, hs, Nat.zero_le _, fun x hx => by cases hx⟩
        · cases hm
          obtain ⟨vs, v1, v2⟩ := pieces (fun i (y : DataW H × List MemPlace) (v : PV) => pvFits sh v = true ∧ TypedC P n e v.cells ∧ pvBulk v ≤ dBulk y.1 ∧ ∀ (j : Nat) (z : PV), v.cells[j]? = some z → isCell z = true ∧ ∃ u, w.cell? ((a.add (i * P.cellsOf e)).add j) = some u ∧ RepV w (fun _ => False) z u) elems 0 (fun i y hy => by
            have hi := (List.getElem?_eq_some_iff.1 hy).1
            have := helem i (by omega)
            rw [hy, Option.bind_eq_some_iff] at this
            obtain ⟨cs', hc1, hc2⟩ := this
            rw [Nat.zero_add]
            exact atAddr e _ sh cs' y he hs hc1 hc2)
          have hvl : vs.length = len := by omega
          have hget : ∀ (i : Nat) (v : PV), vs[i]? = some v → ∃ y, elems[i]? = some y := fun i v hv => by
            have hi := (List.getElem?_eq_some_iff.1 hv).1
            exact ⟨elems[i]'(by omega), List.getElem?_eq_getElem _⟩
          refine ⟨[.sl sh vs], ?_, .one rfl ?_, ?_⟩
          · unfold TypedC
            rw [hu]
            refine ⟨sh, vs, rfl, hs, by omega, fun v hv => ?_⟩
            obtain ⟨i, hi, rfl⟩ := List.mem_iff_getElem.1 hv
            obtain ⟨y, hy⟩ := hget i _ (List.getElem?_eq_getElem hi)
            have := v2 i y _ hy (List.getElem?_eq_getElem hi)
            exact ⟨this.1, this.2.1⟩
          · rw [← hvl]
            have hcc := shN_cellsOf (P := P) hs
            have key : ∀ (i : Nat) (v : PV) (j : Nat) (z : PV), vs[i]? = some v → v.cells[j]? = some z → isCell z = true ∧ ∃ u, w.cell? (a.add (i * shN sh + j)) = some u ∧ RepV w (fun _ => False) z u := by
              intro i v j z hv hz
              obtain ⟨y, hy⟩ := hget i v hv
              obtain ⟨c1, u, c2, c3⟩ := (v2 i y v hy hv).2.2.2 j z hz
              rw [Nat.zero_add, ← hcc, add_add] at c2
              exact ⟨c1, u, c2, c3⟩
            refine .sl sh vs a cap (fun i j => (w.cell? (a.add (i * shN sh + j))).getD Go.undef) (by omega) (fun i v hv => ?_) (fun i v j z hv hz => (key i v j z hv hz).1) (fun _ _ _ _ _ _ q => q) (fun i v j z hv hz => ?_) (fun i v j z hv hz => ?_)
            · obtain ⟨y, hy⟩ := hget i v hv
              exact (v2 i y v hy hv).1
            · obtain ⟨_, u, c2, _⟩ := key i v j z hv hz
              rw [c2]; rfl
            · obtain ⟨_, u, c2, c3⟩ := key i v j z hv hz
              rw [c2]; exact c3
          · have hb : pvBulks vs ≤ dBulks (elems.map (·.1)) := by
              have : ∀ (vs : List PV) (es : List (DataW H × List MemPlace)), vs.length = es.length → (∀ (i : Nat) (y : DataW H × List MemPlace) (v : PV), es[i]? = some y → vs[i]? = some v → pvBulk v ≤ dBulk y.1) → pvBulks vs ≤ dBulks (es.map (·.1)) := by
                intro vs
                induction vs with
                | nil => intro es _ _; simp [pvBulks]
                | cons v vs ih2 =>
                  intro es hl hh
                  cases es with
                  | nil => simp at hl
                  | cons y es =>
                    have h0 := hh 0 y v rfl rfl
                    have := ih2 es (by simpa using hl) fun i a b ha hb => hh (i + 1) a b (by simpa using ha) (by simpa using hb)
                    simp only [pvBulks, List.map_cons, dBulks]
                    omega
              exact this vs elems v1 fun i y v hy hv => (v2 i y v hy hv).2.2.1
            simp only [pvBulks, pvBulk, dBulk]
            omega
      | pointer e =>
        have he : e ∈ T := (memN_iff _ _).1 hg
        obtain ⟨sh, hs⟩ := good e he
        rcases DataW.trod_pointer hu h with ⟨rfl, rfl⟩ | ⟨a, cs', y, m, hm, rfl, rfl, hc, hy⟩
        · exact ⟨[.nilp], by unfold TypedC; rw [hu]; exact .inl rfl, .one rfl .nilp, by simp [pvBulks, pvBulk, dBulk]⟩
        · cases hm
          obtain ⟨v, h1, h2, h3, h4⟩ := atAddr e a sh cs' y he hs hc hy
          refine ⟨[.ptr sh v], by unfold TypedC; rw [hu]; exact .inr ⟨sh, v, rfl, hs, h1, h2⟩, .one rfl ?_, by simp only [pvBulks, pvBulk, dBulk]; omega⟩
          refine .ptr sh v a (fun j => (w.cell? (a.add j)).getD Go.undef) h1 (fun j z hz => (h4 j z hz).1) (fun _ _ _ q => q) (fun j z hz => ?_) (fun j z hz => ?_)
          · obtain ⟨_, u, c2, _⟩ := h4 j z hz
            rw [c2]; rfl
          · obtain ⟨_, u, c2, c3⟩ := h4 j z hz
            rw [c2]; exact c3
      | struct fs =>
        simp only [List.all_eq_true] at hg
        obtain ⟨xs, m, hm, rfl, hl, hxl, hf⟩ := DataW.trod_struct hu h
        cases hm
        obtain ⟨_, ksum, koff⟩ := K.struct ht hu
        obtain ⟨ys, y1, y2⟩ := pieces (fun i (f : Field) (pcs : List PV) => TypedC P n f.type pcs ∧ RepCells w pcs ((cs.drop f.offset).take (P.cellsOf f.type)) ∧ ∀ x, xs[i]? = some x → pvBulks pcs ≤ dBulk x.1) fs.toList 0 (fun i f hif => by
          have hi : i < xs.length := by rw [hxl]; simpa using (List.getElem?_eq_some_iff.1 hif).1
          have hfi : fs[i]? = some f := by simpa using hif
          have hx := hf i f hfi
          rw [List.getElem?_eq_getElem hi] at hx
          obtain ⟨pcs, p1, p2, p3⟩ := ih f.type _ _ ((memN_iff _ _).1 (hg f (List.mem_of_getElem? hif))) hx
          refine ⟨pcs, p1, p2, fun x hx' => ?_⟩
          rw [Nat.zero_add, List.getElem?_eq_getElem hi] at hx'
          cases hx'
          exact p3)
        have hfl : fs.toList.length = fs.size := by simp
        have hoffs : ∀ (i : Nat) (f : Field), fs.toList[i]? = some f → f.offset + P.cellsOf f.type ≤ cs.length := by
          intro i f hif
          rw [hl, ksum, koff i f hif]
          have hi := (List.getElem?_eq_some_iff.1 hif).1
          have h1 := List.take_append_drop (i + 1) (fs.toList.map fun f => P.cellsOf f.type)
          have h2 : (fs.toList.map fun f => P.cellsOf f.type).take (i + 1) = (fs.toList.map fun f => P.cellsOf f.type).take i ++ [P.cellsOf f.type] := by
            rw [List.take_succ_eq_append_getElem (by simpa using hi)]
            simp [(List.getElem?_eq_some_iff.1 hif).2]
          have h3 := congrArg List.sum h1
          rw [List.sum_append, h2, List.sum_append] at h3
          simp only [List.sum_cons, List.sum_nil] at h3
          rw [← List.map_take] at h3
          omega
        have hylen : ∀ (i : Nat) (f : Field) (y : List PV), fs.toList[i]? = some f → ys[i]? = some y → y.length = P.cellsOf f.type := by
          intro i f y hif hiy
          have := (y2 i f y hif hiy).2.1.len
          rw [this, List.length_take, List.length_drop]
          have := hoffs i f hif
          omega
        have hsum := fun j => sum_map_len (P := P) y1 hylen j
        have hpart : ∀ (i : Nat) (f : Field) (y : List PV), fs.toList[i]? = some f → ys[i]? = some y → (ys.flatten.drop f.offset).take (P.cellsOf f.type) = y := by
          intro i f y hif hiy
          have := flatten_part ys (fun i => ((ys[i]?).getD []).length) (fun i p hp => by simp [hp]) i y hiy
          rw [hsum i, ← koff i f hif, hylen i f y hif hiy] at this
          exact this
        have htot : ys.flatten.length = cs.length := by
          have := hsum ys.length
          rw [List.take_length] at this
          rw [List.length_flatten, this, y1, List.take_length, hl, ksum]
        refine ⟨ys.flatten, ?_, ⟨htot, fun j z hz => ?_⟩, ?_⟩
        · unfold TypedC
          rw [hu]
          refine ⟨by rw [htot, hl], fun f hfm => ?_⟩
          obtain ⟨i, hi, rfl⟩ := List.mem_iff_getElem.1 hfm
          have hif : fs.toList[i]? = some fs.toList[i] := List.getElem?_eq_getElem hi
          have hiy : ys[i]? = some (ys[i]'(by omega)) := List.getElem?_eq_getElem _
          rw [hpart i _ _ hif hiy]
          exact (y2 i _ _ hif hiy).1
        · -- the cell lies in one of the fields
          have hj := (List.getElem?_eq_some_iff.1 hz).1
          have loc : ∀ (ps : List (List PV)) (j : Nat) (z : PV), ps.flatten[j]? = some z → ∃ (i : Nat) (p : List PV) (q : Nat), ps[i]? = some p ∧ p[q]? = some z ∧ j = ((ps.take i).map List.length).sum + q := by
            intro ps
            induction ps with
            | nil => intro j z hz; simp at hz
            | cons p ps ih2 =>
              intro j z hz
              rw [List.flatten_cons] at hz
              by_cases hjp : j < p.length
              · rw [List.getElem?_append_left hjp] at hz
                exact ⟨0, p, j, rfl, hz, by simp⟩
              · rw [List.getElem?_append_right (by omega)] at hz
                obtain ⟨i, q, r, h1, h2, h3⟩ := ih2 _ z hz
                exact ⟨i + 1, q, r, by simpa using h1, h2, by simp only [List.take_succ_cons, List.map_cons, List.sum_cons]; omega⟩
          obtain ⟨i, p, q, h1, h2, h3⟩ := loc ys j z hz
          have hi := (List.getElem?_eq_some_iff.1 h1).1
          have hif : fs.toList[i]? = some (fs.toList[i]'(by omega)) := List.getElem?_eq_getElem _
          obtain ⟨c1, u, c2, c3⟩ := (y2 i _ p hif h1).2.1.cell q z h2
          refine ⟨c1, u, ?_, c3⟩
          rw [hsum i, ← koff i _ hif] at h3
          rw [List.getElem?_take] at c2
          split at c2
          · rw [List.getElem?_drop] at c2
            rw [h3]; exact c2
          · cases c2
        · have := dBulks_le (ys := ys) (xs := xs.map (·.1)) (by simp [y1, hxl]) (fun i y x hy hx => by
            rw [List.getElem?_map, Option.map_eq_some_iff] at hx
            obtain ⟨x', hx', rfl⟩ := hx
            have hi := (List.getElem?_eq_some_iff.1 hy).1
            have hif : fs.toList[i]? = some (fs.toList[i]'(by omega)) := List.getElem?_eq_getElem _
            exact (y2 i _ y hif hy).2.2 x' (by rw [Nat.zero_add]; exact hx'))
          simp only [dBulk]
          omega
      | _ => simp at hg
end
end Go.Ev

namespace Go.Ev

section
variable {H : Type} {enc : TypeId × Value → H} {P : Program}

theorem good_kids {T : List TypeId} (hl : laidOutB P = true) (hT : goodT P T = true) : Kids P (fun t => t ∈ T) := by
  have good : ∀ {t : TypeId}, t ∈ T → _ := fun {t} ht => List.all_eq_true.1 hT t ht
  refine ⟨fun {t e} ht hu => ?_, fun {t e} ht hu => ?_, fun {t e n} ht hu => ?_, fun {t fs} ht hu => ?_, fun {t k e} ht hu => ?_⟩
  · have := good ht
    rw [hu] at this
    simp only [Bool.and_eq_true] at this
    exact (memN_iff _ _).1 this.1.1
  · have := good ht
    rw [hu] at this
    simp only [Bool.and_eq_true] at this
    exact (memN_iff _ _).1 this.1.1.1
  · have := good ht
    rw [hu] at this
    simp at this
  · have := good ht
    rw [hu] at this
    simp only [Bool.and_eq_true, List.all_eq_true, Nat.blt_eq] at this
    obtain ⟨_, h2, h3⟩ := kid_struct hl this.2 hu
    exact ⟨fun f hf => (memN_iff _ _).1 (this.1.1 f hf), h2, h3⟩
  · have := good ht
    rw [hu] at this
    simp at this
theorem good_sized {T : List TypeId} (hT : goodT P T = true) {t e : TypeId} (ht : t ∈ T) (hu : P.underlying t = some (.slice e)) : 0 < P.cellsOf e := by
  have := List.all_eq_true.1 hT t ht
  rw [hu] at this
  simp only [Bool.and_eq_true, Nat.blt_eq] at this
  exact this.1.1.2

/-- The arguments, read. -/
theorem trodAll_rep {T : List TypeId} {w : World} (hT : goodT P T = true) (K : Kids P (fun t => t ∈ T)) : ∀ (ts : List TypeId) (us : List Value) (ds : List (DataW H)) (ps : List MemPlace), (∀ t ∈ ts, t ∈ T) →
    (∀ (j : Nat) (t : TypeId) (u : Value), ts[j]? = some t → us[j]? = some u → tShape P t = some none → u.cells = #[u]) → (∀ (j : Nat) (t : TypeId) (u : Value) (n : Nat), ts[j]? = some t → us[j]? = some u → tShape P t = some (some n) → ∃ cs, u = .agg cs) →
    DataW.TrodAll enc P w 0 (fun _ => true) true ts us ds ps → ∃ vs, TypedAll P ts vs ∧ vs.length = us.length ∧ (∀ (j : Nat) (v : PV) (u : Value), vs[j]? = some v → us[j]? = some u → RepV w (fun _ => False) v u) ∧ pvBulks vs ≤ dBulks ds
  | [], [], [], _, _, _, _, _ => ⟨[], .nil, rfl, fun j v u h => by simp at h, by simp [pvBulks]⟩
  | t :: ts, u :: us, d :: ds, ps, ht, h1, h2, h => by
    obtain ⟨p, q, ⟨n, hn⟩, hr, rfl⟩ := h
    obtain ⟨vs, a1, a2, a3, a4⟩ := trodAll_rep hT K ts us ds q (fun x hx => ht x (by simp [hx])) (fun j t' u' hj hu => h1 (j + 1) t' u' (by simpa using hj) (by simpa using hu)) (fun j t' u' m hj hu => h2 (j + 1) t' u' m (by simpa using hj) (by simpa using hu)) hr
    obtain ⟨pcs, b1, b2, b3⟩ := trod_rep hT K n t _ _ (ht t (by simp)) hn
    have hg := List.all_eq_true.1 hT t (ht t (by simp))
    simp only [Bool.and_eq_true] at hg
    obtain ⟨sh, hs⟩ := Option.isSome_iff_exists.1 hg.1.2
    have hv : ∃ v, Typed P t v ∧ RepV w (fun _ => False) v u ∧ pvBulk v ≤ dBulk d := by
      cases sh with
      | none =>
        have hc := h1 0 t u rfl rfl hs
        rw [hc] at b2
        have hlen := b2.len
        match pcs, hlen with
        | [y], _ =>
          obtain ⟨c1, x, c2, c3⟩ := b2.cell 0 y rfl
          simp at c2
          subst c2
          exact ⟨y, ⟨n, none, hs, c1, by rw [cells_of_isCell c1]; exact b1⟩, c3, by simpa [pvBulks] using b3⟩
      | some m =>
        obtain ⟨cs, rfl⟩ := h2 0 t u m rfl rfl hs
        have e : (Value.agg cs).cells = cs := rfl
        rw [e] at b2
        have hlen : pcs.length = m := by
          have := b2.len
          have hcells : pcs.length = P.cellsOf t := by
            cases n with
            | zero => exact b1.elim
            | succ n =>
              unfold TypedC at b1
              unfold tShape at hs
              cases hi : P.info? t with
              | none => rw [hi] at hs; cases hs
              | some i =>
                rw [hi] at hs
                cases hu : P.underlying t with
                | none => rw [hu] at hs; cases hs
                | some dd =>
                  rw [hu] at hs b1
                  cases dd with
                  | struct fs => exact b1.1
                  | array => exact b1.elim
                  | _ =>
                    dsimp only at hs
                    split at hs
                    · cases hs
                    · cases hs
          rw [hcells, ← shN_cellsOf hs]; rfl
        refine ⟨.agg pcs, ⟨n, some m, hs, by simp [pvFits, hlen], b1⟩, ?_, by simpa [pvBulk] using b3⟩
        refine .agg pcs cs (fun j => cs.getD j Go.undef) (by have := b2.len; simpa using this.symm) (fun j y hj => (b2.cell j y hj).1) (fun j y hj => ?_) (fun j y hj => ?_)
        · obtain ⟨_, z, c2, _⟩ := b2.cell j y hj
          have : cs[j]? = some z := by simpa using c2
          simp [this]
        · obtain ⟨_, z, c2, c3⟩ := b2.cell j y hj
          have : cs[j]? = some z := by simpa using c2
          have : cs.getD j Go.undef = z := by simp [this]
          rw [this]; exact c3
    obtain ⟨v, v1, v2, v3⟩ := hv
    refine ⟨v :: vs, .cons _ _ _ _ v1 a1, by simp [a2], fun j v' u' hj hu => ?_, by simp only [pvBulks, dBulks]; omega⟩
    cases j with
    | zero => simp at hj hu; subst hj; subst hu; exact v2
    | succ j => exact a3 j v' u' (by simpa using hj) (by simpa using hu)
  | [], _ :: _, _, _, _, _, _, h => h.elim
  | [], [], _ :: _, _, _, _, _, h => h.elim
  | _ :: _, [], _, _, _, _, _, h => h.elim
  | _ :: _, _ :: _, [], _, _, _, _, h => h.elim

/-- They read the same, where old memory is as it was. -/
theorem trodAll_stays {T : List TypeId} {w w' : World} (hT : goodT P T = true) (K : Kids P (fun t => t ∈ T)) (hsame : ∀ k, k < w.heap.size → w'.heap[k]? = w.heap[k]?) : ∀ (ts : List TypeId) (us : List Value) (ds : List (DataW H)) (ps : List MemPlace), (∀ t ∈ ts, t ∈ T) →
    DataW.TrodAll enc P w 0 (fun _ => true) true ts us ds ps → DataW.TrodAll enc P w' 0 (fun b => decide (b < w.heap.size)) true ts us ds ps
  | [], [], [], _, _, h => h
  | t :: ts, u :: us, d :: ds, ps, ht, h => by
    obtain ⟨p, q, ⟨n, hn⟩, hr, rfl⟩ := h
    have hlt := DataW.trod_lt n t _ _ hn
    refine ⟨p, q, ⟨n, DataW.trod_stays K (fun h1 h2 => good_sized hT h1 h2) (fun h => by cases h) (ht t (by simp)) hn (fun x hx => ?_) (fun x hx => ?_)⟩, trodAll_stays hT K hsame ts us ds q (fun x hx => ht x (by simp [hx])) hr, rfl⟩
    · have := hsame _ (hlt x hx)
      cases x with
      | cell b off => exact cell_same this
      | map b => exact this
    · simpa using hlt x hx
  | [], _ :: _, _, _, _, h => h.elim
  | [], [], _ :: _, _, _, h => h.elim
  | _ :: _, [], _, _, _, h => h.elim
  | _ :: _, _ :: _, [], _, _, h => h.elim

theorem okWide_cells {w : World} {base : Nat} {t : TypeId} {u : Value} (h : Value.okWide P w .any base t u) : (tShape P t = some none → u.cells = #[u]) ∧ ∀ n, tShape P t = some (some n) → ∃ cs, u = .agg cs := by
  refine ⟨fun hs => ?_, fun n hs => ?_⟩
  · have hna : ∀ cs, u ≠ .agg cs := by
      rintro cs rfl
      unfold Value.okWide at h
      split at h
      · rename_i fs hu
        obtain ⟨m, hm⟩ := shape_struct hu hs
        cases hm
      · rename_i m e hu
        unfold tShape at hs
        rw [hu] at hs
        cases hi : P.info? t with
        | none => rw [hi] at hs; cases hs
        | some i => rw [hi] at hs; cases hs
      · unfold Cell.okWide at h
        split at h <;> try (simp_all; done)
        unfold Cell.ok at h
        split at h <;> simp_all
    cases u with
    | agg cs => exact absurd rfl (hna cs)
    | _ => rfl
  · unfold Value.okWide at h
    split at h
    · exact let ⟨cs, h1, _⟩ := h; ⟨cs, h1⟩
    · exact let ⟨cs, h1, _⟩ := h; ⟨cs, h1⟩
    · rename_i h1 h2
      exfalso
      unfold tShape at hs
      split at hs
      · rename_i i fs _ hu; exact h1 _ hu
      · rename_i i m e _ hu; exact h2 _ _ hu
      · split at hs
        · cases hs
        · cases hs
      · cases hs

theorem law_contract {C : Ctx} {f : FuncId} {fn : Func} {s : ChangeSpec} {T : List TypeId} {tb : TypeId} {W : World} {base : Nat} {args : Array Value} {ds gs : List (DataW H)} {before : List MemPlace}
    (hN : namesOk C.P = true) (hprim : ∀ g p os rr, C.prim g = some p → p os = some rr → CallSpec C.P g os rr.1 rr.2) (hl : laidOutB C.P = true) (hT : goodT C.P T = true) (hts : ∀ t ∈ fn.params.toList, t ∈ T)
    (hvars : s.vars = []) (hspec : ∀ ds : List (DataW H), ds.length = fn.params.size → s.fn H ds = { results := [.lit (.bool true)], args := ds }) (hres : fn.resultTypes = #[tb]) (htb : C.P.underlying tb = some .bool)
    (hval : ∀ (j : Nat) t v, fn.params[j]? = some t → args[j]? = some v → Value.okWide C.P W .any base t v) (hW : DataW.Whole enc C.P fn.params.toList s.vars false W args.toList ds gs before)
    (hlaw : ∀ vs, TypedAll C.P fn.params.toList vs → pvBulks vs ≤ dBulks (ds ++ gs) → ∃ n outs, pcall C n f (vs.map fun v => .flat (.val v)) = some ([.flat (.val (.bool true))], outs)) :
    Calls C.P f args W fun e W' => ∃ v, e = .returned v ∧ s.post enc C.P fn false true false false W args v W' := by
  have K := good_kids hl hT
  have hW' := hW
  obtain ⟨p, q, hA, hV, rfl, hfz, hnd⟩ := hW
  rw [hvars] at hV
  have hgs : gs = [] ∧ q = [] := by
    cases gs with
    | nil => exact ⟨rfl, hV⟩
    | cons => exact hV.elim
  obtain ⟨rfl, rfl⟩ := hgs
  have hlen : ∀ {ts : List TypeId} {us : List Value} {ds : List (DataW H)} {ps : List MemPlace}, DataW.TrodAll enc C.P W 0 (fun _ => true) true ts us ds ps → us.length = ts.length ∧ ds.length = ts.length := by
    intro ts
    induction ts with
    | nil =>
      intro us ds ps h
      cases us with
      | nil => cases ds with | nil => exact ⟨rfl, rfl⟩ | cons => exact h.elim
      | cons => exact h.elim
    | cons t ts ih =>
      intro us ds ps h
      cases us with
      | nil => exact h.elim
      | cons u us =>
        cases ds with
        | nil => exact h.elim
        | cons d ds =>
          obtain ⟨_, _, _, hr, _⟩ := h
          obtain ⟨a, b⟩ := ih hr
          exact ⟨by simp [a], by simp [b]⟩
  obtain ⟨hl1, hl2⟩ := hlen hA
  obtain ⟨vs, v1, v2, v3, v4⟩ := trodAll_rep hT K fn.params.toList args.toList ds p hts (fun j t u hj hu hs => (okWide_cells (hval j t u (by simpa using hj) (by simpa using hu))).1 hs) (fun j t u n hj hu hs => (okWide_cells (hval j t u (by simpa using hj) (by simpa using hu))).2 n hs) hA
  obtain ⟨n, outs, hp⟩ := hlaw vs v1 (by simpa using v4)
  have hcs := pcall_spec hN hprim n f _ _ hp
  have hS : SRel W (fun _ => False) (startSlots 0 (vs.map fun v => OV.flat (.val v))) (fun t => args.toList.getD t Go.undef) (fun _ _ => none) := by
    refine ⟨fun t => ?_, fun t c t' c' k q => (by cases q), fun t c k q => (by cases q)⟩
    rw [get_start, if_pos (Nat.zero_le _), Nat.sub_zero, List.getElem?_map]
    cases hv : vs[t]? with
    | none => exact fun _ => rfl
    | some v =>
      have hlt := (List.getElem?_eq_some_iff.1 hv).1
      have hu : args.toList[t]? = some (args.toList[t]'(by omega)) := List.getElem?_eq_getElem _
      have hget : args.toList.getD t Go.undef = args.toList[t]'(by omega) := by simp [List.getD, hu]
      show ORep _ _ (.flat (.val v)) (args.toList.getD t Go.undef) _ _
      rw [hget]
      refine .flat _ _ _ (.val _ _ ((v3 t v _ hv hu).move fun k _ _ => ⟨rfl, ?_⟩))
      rintro (⟨_, _, q⟩ | q)
      · cases q
      · exact q
  have hcall := hcs W (fun _ => False) args.toList (fun _ _ => none) (by simp [v2]) (fun k q => q.elim) hS
  have hargs : args.toList.toArray = args := by simp
  rw [hargs] at hcall
  refine hcall.mono fun e W' ⟨v, he, hG, hco⟩ => ?_
  obtain ⟨N, stO, tmO, ob, k1, _, _, _, k5, k6⟩ := hco.ex
  have hv : v = .bool true := by
    rw [k6]
    have hrep := k1.rep (N + 0)
    rw [k5 0 _ rfl] at hrep
    exact ((ORep.flat_inv hrep).1.val_inv).1.bool_inv
  subst hv
  have hsame : ∀ k, k < W.heap.size → W'.heap[k]? = W.heap[k]? := fun k hk => hG.same k hk fun ⟨_, _, q⟩ => by cases q
  have hsp := hspec (ds ++ []) (by simp [hl2])
  refine ⟨_, he, ds, [], p ++ [], [], p, [], hW', ?_, ?_, ?_, ⟨hG.os, hG.output, fun i hi => ?_⟩, fun h => by cases h⟩
  · rw [hsp, hres]
    refine ⟨[], [], ⟨1, ?_⟩, rfl, rfl⟩
    simp [DataW.trod, htb, Value.cells]
  · rw [hsp]
    simp only [List.append_nil]
    exact trodAll_stays hT K hsame _ _ _ _ hts hA
  · rw [hsp, hvars]
    exact rfl
  · rw [hsame i hi]
    cases W.heap[i]? with
    | none => trivial
    | some o =>
      cases o with
      | cells c t fr => exact ⟨rfl, rfl, rfl, fun _ _ => rfl⟩
      | map es clock => exact .inr ⟨rfl, rfl⟩
      | _ => exact rfl
end
end Go.Ev

namespace Go.Ev

section
variable {P : Program}

/-- A function that reads what it takes, gives what owns nothing, and leaves the world's old blocks alone. -/
theorem quiet_spec {f : FuncId} {os rs : List PV}
    (h : ∀ (w : World) (us : List Value), us.length = os.length → (∀ (j : Nat) (p : PV), os[j]? = some p → ∃ O, RepV w O p (us.getD j Go.undef)) →
      Calls P f us.toArray w fun e w' => ∃ vs : Nat → Value, e = .returned (resultVal rs.length vs) ∧ w' = w ∧ ∀ (j : Nat) (p : PV), rs[j]? = some p → ∀ w O, RepV w O p (vs j)) :
    CallSpec P f (os.map fun v => .flat (.val v)) (rs.map fun v => .flat (.val v)) [] := by
  intro w Oc us ab hlen hOc hS
  have hl : us.length = os.length := by simpa using hlen
  refine (h w us hl fun j p hj => ?_).mono fun e w' ⟨vs, he, hw, hr⟩ => ?_
  · have hr := hS.rep j
    rw [get_start, if_pos (Nat.zero_le _), Nat.sub_zero, List.getElem?_map, hj] at hr
    exact ⟨_, (ORep.flat_inv hr).1.val_inv.1⟩
  · subst hw
    refine ⟨_, he, Grow.refl _ _, ⟨⟨us.length, startSlots us.length (rs.map fun v => .flat (.val v)), fun t => vs (t - us.length), fun _ _ => none, ?_, fun t c k q => (by cases q), Nat.le_refl _, fun i o hi => (by simp at hi), fun j o hj => ?_, ?_⟩⟩⟩
    · refine ⟨fun t => ?_, fun t c t' c' k q => (by cases q), fun t c k q => (by cases q)⟩
      rw [get_start]
      split
      · rename_i hle
        rw [List.getElem?_map]
        cases hv : rs[t - us.length]? with
        | none => exact fun _ => rfl
        | some v => exact .flat _ _ _ (.val _ _ (hr _ _ hv _ _))
      · exact fun _ => rfl
    · rw [get_start, if_pos (by omega), Nat.add_sub_cancel_left, hj]
    · simp [Nat.add_sub_cancel_left]

/-- A value that speaks of no block. -/
def ScalarV (x : PV) (u : Value) : Prop := ∀ w O, RepV w O x u
/-- A new row of scalars, in a block of the call's own. -/
structure NewRow (w w' : World) (xs sp : List PV) (v : Value) : Prop where
  os : w'.os = w.os
  tape : w'.tape = w.tape
  output : w'.output = w.output
  size : w.heap.size ≤ w'.heap.size
  same : ∀ k, k < w.heap.size → w'.heap[k]? = w.heap[k]?
  row : (xs = [] ∧ sp = [] ∧ ∃ A, v = .slice A 0 0) ∨ ∃ (g c : Nat) (cur : Array Value) (e : TypeId) (fr : Nat × Nat), v = .slice (some ⟨g, 0, none⟩) xs.length c ∧ w.heap.size ≤ g ∧ w'.heap[g]? = some (.cells cur e fr) ∧ Thawed cur fr ∧
    cur.size = c ∧ xs.length ≤ c ∧ c ≤ 9223372036854775807 ∧ (∀ (i : Nat) (x : PV), xs[i]? = some x → ∃ u, cur[i]? = some u ∧ ScalarV x u) ∧ (∀ (j : Nat) (y : PV), sp[j]? = some y → ∃ u, cur[xs.length + j]? = some u ∧ ScalarV y u)

theorem newRow_spec {f : FuncId} {os xs sp : List PV} (hc : ∀ x ∈ xs, isCell x = true)
    (h : ∀ (w : World) (us : List Value), us.length = os.length → (∀ (j : Nat) (p : PV), os[j]? = some p → ∃ O, RepV w O p (us.getD j Go.undef)) →
      Calls P f us.toArray w fun e w' => ∃ v, e = .returned v ∧ NewRow w w' xs sp v) :
    CallSpec P f (os.map fun v => .flat (.val v)) [.flat (.own none xs sp)] [] := by
  intro w Oc us ab hlen hOc hS
  have hl : us.length = os.length := by simpa using hlen
  refine (h w us hl fun j p hj => ?_).mono fun e w' ⟨v, he, hr⟩ => ?_
  · have hr := hS.rep j
    rw [get_start, if_pos (Nat.zero_le _), Nat.sub_zero, List.getElem?_map, hj] at hr
    exact ⟨_, (ORep.flat_inv hr).1.val_inv.1⟩
  · have hG : Grow w w' ab := ⟨hr.os, hr.tape, hr.output, hr.size, fun k hk _ => hr.same k hk⟩
    have get1 : ∀ t, t ≠ us.length → (startSlots us.length [OV.flat (.own none xs sp)]).get t = .dead := by
      intro t ht
      rw [get_start]
      split
      · rename_i hle
        have : t - us.length ≠ 0 := by omega
        cases hk : t - us.length with
        | zero => omega
        | succ k => rfl
      · rfl
    have get2 : (startSlots us.length [OV.flat (.own none xs sp)]).get us.length = .home (.flat (.own none xs sp)) := by
      rw [get_start, if_pos (Nat.le_refl _), Nat.sub_self]
      rfl
    have hcells : ∀ (i : Nat) (x : PV), xs[i]? = some x → x.cells = [x] := fun i x hi => cells_of_isCell (hc x (List.mem_of_getElem? hi))
    rcases hr.row with ⟨rfl, rfl, A, rfl⟩ | ⟨g, c, cur, ety, fr, rfl, hg, hh, ht, hs, hlc, hcL, hx, hy⟩
    · refine ⟨_, he, hG, ⟨⟨us.length, startSlots us.length [.flat (.own none [] [])], fun _ => .slice A 0 0, fun _ _ => none, ⟨fun t => ?_, fun t c t' c' k q => (by cases q), fun t c k q => (by cases q)⟩, fun t c k q => (by cases q), Nat.le_refl _, fun i o hi => (by simp at hi), fun j o hj => ?_, ?_⟩⟩⟩
      · by_cases htl : t = us.length
        · subst htl
          rw [get2]
          exact .flat _ _ _ (.ownE none A)
        · rw [get1 t htl]
          exact fun _ => rfl
      · cases j with
        | zero => simp at hj; subst hj; exact get2
        | succ j => simp at hj
      · rfl
    · have hgl : g < w'.heap.size := (Array.getElem?_eq_some_iff.1 hh).1
      have hspL : xs.length + sp.length ≤ c := by
        cases hk : sp.length with
        | zero => omega
        | succ k =>
          obtain ⟨u, hu, _⟩ := hy k sp[k] (by simp [hk])
          have := (Array.getElem?_eq_some_iff.1 hu).1
          omega
      have hob : ∀ (t : Nat) (c : Option Nat) (k : Nat), (if t = us.length ∧ c = none then some g else none) = some k → t = us.length ∧ c = none ∧ k = g := by
        intro t c k q
        split at q
        · rename_i h1
          cases q
          exact ⟨h1.1, h1.2, rfl⟩
        · cases q
      refine ⟨_, he, hG, ⟨⟨us.length, startSlots us.length [.flat (.own none xs sp)], fun _ => .slice (some ⟨g, 0, none⟩) xs.length c, fun t c => if t = us.length ∧ c = none then some g else none, ⟨fun t => ?_, fun t c t' c' k q q' => ?_, fun t c k q => ?_⟩, fun t c k q => ?_, Nat.le_refl _, fun i o hi => (by simp at hi), fun j o hj => ?_, ?_⟩⟩⟩
      · by_cases htl : t = us.length
        · subst htl
          rw [get2]
          show ORep w' _ (.flat (.own none xs sp)) _ (if us.length = us.length ∧ (none : Option Nat) = none then some g else none) (fun j => if us.length = us.length ∧ some j = none then some g else none)
          have e1 : (if us.length = us.length ∧ (none : Option Nat) = none then some g else none) = some g := by simp
          have e2 : (fun j : Nat => if us.length = us.length ∧ some j = none then some g else none) = fun _ => none := by funext j; simp
          rw [e1, e2]
          refine .flat _ _ _ (.own none xs sp g c cur ety fr (fun i _ => cur.getD i Go.undef) ⟨hh, ht, by simpa [shN] using Nat.le_of_eq hs.symm, hlc, fun i x hi => hc x (List.mem_of_getElem? hi), fun i x j y hi hj => ?_, fun i x j y hi hj => ?_, fun i x j y hi hj => ?_, fun j y hj => ?_, hcL, hspL⟩)
          · rw [hcells i x hi] at hj
            cases j with
            | zero => simp at hj; subst hj; exact hc x (List.mem_of_getElem? hi)
            | succ j => simp at hj
          · rw [hcells i x hi] at hj
            cases j with
            | zero =>
              obtain ⟨u, hu, _⟩ := hx i x hi
              simp [shN, Array.getD_eq_getD_getElem?, hu]
            | succ j => simp at hj
          · rw [hcells i x hi] at hj
            cases j with
            | zero =>
              simp at hj
              subst hj
              obtain ⟨u, hu, hs⟩ := hx i x hi
              simp only [Array.getD_eq_getD_getElem?, hu, Option.getD_some]
              exact hs _ _
            | succ j => simp at hj
          · obtain ⟨u, hu, hs⟩ := hy j y hj
            exact ⟨u, by simpa [shN] using hu, hs _ _⟩
        · rw [get1 t htl]
          intro c
          simp [htl]
      · obtain ⟨a1, a2, _⟩ := hob _ _ _ q
        obtain ⟨b1, b2, _⟩ := hob _ _ _ q'
        exact ⟨a1.trans b1.symm, a2.trans b2.symm⟩
      · obtain ⟨_, _, rfl⟩ := hob _ _ _ q
        exact ⟨fun ho => absurd (hOc _ ho) (by omega), hgl⟩
      · obtain ⟨_, _, rfl⟩ := hob _ _ _ q
        exact .inr hg
      · cases j with
        | zero => simp at hj; subst hj; exact get2
        | succ j => simp at hj
      · rfl
end

/-- strings.Compare -/
def primCompare : List OV → Option (List OV × List OV)
  | [.flat (.val (.str a)), .flat (.val (.str b))] => some ([.flat (.val (.int .i64 (Lib.compareBytes a b)))], [])
  | _ => none

theorem primCompare_spec {P : Program} {f : FuncId} (h : ∀ (a b : ByteArray) (w : World), Calls P f #[.string a, .string b] w fun e w' => e = .returned (.int .i64 (Lib.compareBytes a.data.toList b.data.toList)) ∧ w' = w)
    {os : List OV} {rr : List OV × List OV} (hp : primCompare os = some rr) : CallSpec P f os rr.1 rr.2 := by
  unfold primCompare at hp
  split at hp
  · rename_i a b
    cases hp
    refine quiet_spec (os := [.str a, .str b]) (rs := [.int .i64 (Lib.compareBytes a b)]) fun w us hl hr => ?_
    match us, hl with
    | [x, y], _ =>
      obtain ⟨O, hx⟩ := hr 0 _ rfl
      obtain ⟨O', hy⟩ := hr 1 _ rfl
      obtain ⟨sx, rfl, rfl⟩ := hx.str_inv
      obtain ⟨sy, rfl, rfl⟩ := hy.str_inv
      refine (h sx sy w).mono fun e w' ⟨he, hw⟩ => ⟨fun _ => .int .i64 (Lib.compareBytes sx.data.toList sy.data.toList), he, hw, fun j p hj => ?_⟩
      match j, hj with
      | 0, rfl => exact fun w O => .int _ _
  · cases hp

theorem isByte_inv {x : PV} (h : isByte x = true) : x = .int .u8 x.toI := by
  unfold isByte at h
  split at h
  · rfl
  · cases h
theorem isByte_cell {x : PV} (h : isByte x = true) : isCell x = true := by
  rw [isByte_inv h]; rfl
/-- Bytes that are read: where they lie. -/
theorem bytes_read {w : World} {O : Nat → Prop} {xs : List PV} {u : Value} (hb : xs.all isByte = true) (h : RepV w O (.sl none xs) u) :
    ∃ A c, u = .slice A xs.length c ∧ xs.length ≤ c ∧ (A = none → c = 0) ∧ ∀ a, A = some a → ∀ i, i < xs.length → w.cell? (a.add i) = some (.int .u8 ((xs.map PV.toI).getD i 0)) := by
  obtain ⟨A, c, h1, h2, h3, h4, h5⟩ := h.sl_inv
  refine ⟨A, c, h1, h2, h3, fun a ha i hi => ?_⟩
  have hx : xs[i]? = some xs[i] := List.getElem?_eq_getElem hi
  have hbx : isByte xs[i] = true := List.all_eq_true.1 hb _ (List.getElem_mem hi)
  have hc := cells_of_isCell (isByte_cell hbx)
  obtain ⟨_, a', z, e1, _, e2, e3⟩ := h5 i xs[i] 0 xs[i] hx (by rw [hc]; rfl)
  rw [ha] at e1
  cases e1
  rw [isByte_inv hbx] at e3
  have := e3.int_inv
  subst this
  simp only [shN, Nat.mul_one, Nat.add_zero] at e2
  rw [e2]
  simp [List.getD, hx]
theorem bytes_scalar {xs : List PV} (hb : xs.all isByte = true) (i : Nat) (x : PV) (hi : xs[i]? = some x) : ((xs.map PV.toI).map (Value.int .u8))[i]? = some (Value.int .u8 x.toI) ∧ ScalarV x (Value.int .u8 x.toI) := by
  refine ⟨by simp [hi], fun w O => ?_⟩
  have := isByte_inv (List.all_eq_true.1 hb x (List.mem_of_getElem? hi))
  rw [this]
  exact .int _ _
theorem newRow_of_owns {w w' : World} {xs : List PV} {v : Value} {t : TypeId} (hb : xs.all isByte = true) (ho : w'.ownsRow w.heap.size t 1 v xs.length ((xs.map PV.toI).map (Value.int .u8))) (h : RowKit.Below w.heap.size w w') : NewRow w w' xs [] v := by
  refine ⟨h.os, h.tape, h.output, h.size, h.block, ?_⟩
  rcases ho.2 with ⟨rfl, hn⟩ | ⟨g, cap, cur, rfl, hg, hh, hn, hm, hs, ht⟩
  · left
    cases xs with
    | nil => exact ⟨rfl, rfl, _, rfl⟩
    | cons => simp at hn
  · right
    refine ⟨g, cap, cur, t, (0, 0), rfl, hg, hh, thawed0 _, by simpa using hs, hn, hm, fun i x hi => ?_, fun j y hj => by simp at hj⟩
    obtain ⟨h1, h2⟩ := bytes_scalar hb i x hi
    refine ⟨_, ?_, h2⟩
    rw [← ht, List.getElem?_take] at h1
    split at h1
    · simpa using h1
    · cases h1

/-- bytes.Clone -/
def primClone : List OV → Option (List OV × List OV)
  | [.flat (.val (.sl none xs))] => match xs.all isByte && Nat.ble xs.length 140737488355328 with
    | true => some ([.flat (.own none xs [])], [])
    | false => none
  | _ => none
theorem primClone_spec {P : Program} {f : FuncId} {t : TypeId} (hn : ∀ (n c : Nat) (w : World), Calls P f #[.slice none n c] w fun e w' => e = .returned (.slice none 0 0) ∧ w' = w)
    (ha : ∀ (a : Addr) (n c : Nat) (xs : List Int) (w : World), xs.length = n → n ≤ 140737488355328 → (∀ i, i < n → w.cell? (a.add i) = some (.int .u8 (xs.getD i 0))) →
      Calls P f #[.slice (some a) n c] w fun e w' => ∃ v', e = .returned v' ∧ w'.ownsRow w.heap.size t 1 v' n (xs.map (Value.int .u8)) ∧ RowKit.Below w.heap.size w w')
    {os : List OV} {rr : List OV × List OV} (hp : primClone os = some rr) : CallSpec P f os rr.1 rr.2 := by
  unfold primClone at hp
  split at hp
  · rename_i xs
    split at hp
    · rename_i hc
      cases hp
      simp only [Bool.and_eq_true] at hc
      obtain ⟨hb, hl⟩ := hc
      rw [Nat.ble_eq] at hl
      refine newRow_spec (os := [.sl none xs]) (fun x hx => isByte_cell (List.all_eq_true.1 hb x hx)) fun w us hlen hr => ?_
      match us, hlen with
      | [u], _ =>
        obtain ⟨O, hu⟩ := hr 0 _ rfl
        obtain ⟨A, c, rfl, h2, h3, h4⟩ := bytes_read hb hu
        cases A with
        | none =>
          have : c = 0 := h3 rfl
          have hx : xs = [] := List.length_eq_zero_iff.1 (by omega)
          subst hx
          refine (hn _ _ w).mono fun e w' ⟨he, hw⟩ => ?_
          subst hw
          exact ⟨_, he, rfl, rfl, rfl, Nat.le_refl _, fun _ _ => rfl, .inl ⟨rfl, rfl, none, rfl⟩⟩
        | some a =>
          refine (ha a xs.length c (xs.map PV.toI) w (by simp) hl (h4 a rfl)).mono fun e w' ⟨v', he, ho, hB⟩ => ?_
          exact ⟨v', he, newRow_of_owns hb ho hB⟩
    · cases hp
  · cases hp
end Go.Ev

namespace Go.Ev

/-- A field of a struct type: its type, where it begins, how many cells it has. -/
def fieldAt (P : Program) (t : TypeId) (i : Nat) : Option (TypeId × Nat × Nat) := match P.underlying t with
  | some (.struct fs) => (fs.toList[i]?).map fun f => (f.type, f.offset, P.cellsOf f.type)
  | _ => none
def isStruct (P : Program) (t : TypeId) : Bool := match P.underlying t with
  | some (.struct _) => true
  | _ => false

section
variable {P : Program} {d : Nat} {t : TypeId} {cs : List PV} {v : PV}

theorem TypedC.field {i : Nat} {ty : TypeId} {off n : Nat} (h : TypedC P d t cs) (hf : fieldAt P t i = some (ty, off, n)) : TypedC P (d - 1) ty ((cs.drop off).take n) := by
  cases d with
  | zero => exact h.elim
  | succ d =>
    unfold fieldAt at hf
    unfold TypedC at h
    split at hf
    · rename_i fs hu
      rw [hu] at h
      cases hg : fs.toList[i]? with
      | none => rw [hg] at hf; cases hf
      | some f =>
        rw [hg] at hf
        cases hf
        exact h.2 f (List.mem_of_getElem? hg)
    · cases hf
theorem TypedC.len (h : TypedC P d t cs) (hs : isStruct P t = true) : cs.length = P.cellsOf t := by
  cases d with
  | zero => exact h.elim
  | succ d =>
    unfold isStruct at hs
    unfold TypedC at h
    split at hs
    · rename_i fs hu
      rw [hu] at h
      exact h.1
    · cases hs
theorem TypedC.int {k : IntKind} (h : TypedC P d t cs) (hu : P.underlying t = some (.int k)) : ∃ n, cs = [.int k n] ∧ (Lit.int k n).wf = true := by
  cases d with
  | zero => exact h.elim
  | succ d => unfold TypedC at h; rw [hu] at h; exact h
theorem TypedC.bool (h : TypedC P d t cs) (hu : P.underlying t = some .bool) : ∃ b, cs = [.bool b] := by
  cases d with
  | zero => exact h.elim
  | succ d => unfold TypedC at h; rw [hu] at h; exact h
theorem TypedC.str (h : TypedC P d t cs) (hu : P.underlying t = some .string) : ∃ s, cs = [.str s] ∧ s.length ≤ maxLen := by
  cases d with
  | zero => exact h.elim
  | succ d => unfold TypedC at h; rw [hu] at h; exact h
theorem TypedC.slice {e : TypeId} {sh : Option Nat} (h : TypedC P d t cs) (hu : P.underlying t = some (.slice e)) (hs : tShape P e = some sh) : ∃ xs, cs = [.sl sh xs] ∧ xs.length ≤ maxLen ∧ ∀ x ∈ xs, pvFits sh x = true ∧ TypedC P (d - 1) e x.cells := by
  cases d with
  | zero => exact h.elim
  | succ d =>
    unfold TypedC at h
    rw [hu] at h
    obtain ⟨sh', xs, h1, h2, h3, h4⟩ := h
    rw [hs] at h2
    cases h2
    exact ⟨xs, h1, h3, h4⟩
theorem Typed.cell {x : PV} (h : Typed P t v) (hs : tShape P t = some none) (hx : v.cells = [x]) : v = x := by
  obtain ⟨d, sh, h1, h2, h3⟩ := h
  rw [hs] at h1
  cases h1
  cases v <;> first | (cases h2; done) | (simp [PV.cells] at hx; exact hx)
theorem Typed.get (h : Typed P t v) : ∃ d, TypedC P d t v.cells := ⟨h.choose, h.choose_spec.choose_spec.2.2⟩
theorem fits_agg {n : Nat} (h : pvFits (some n) v = true) : v = .agg v.cells := by
  cases v <;> first | rfl | (cases h; done)
theorem Typed.agg {n : Nat} (h : Typed P t v) (hs : tShape P t = some (some n)) : v = .agg v.cells := by
  obtain ⟨d, sh, h1, h2, h3⟩ := h
  rw [hs] at h1
  cases h1
  exact fits_agg h2
theorem TypedAll.nil_inv {vs : List PV} (h : TypedAll P [] vs) : vs = [] := by cases h; rfl
theorem TypedAll.cons_inv {ts : List TypeId} {vs : List PV} (h : TypedAll P (t :: ts) vs) : ∃ v r, vs = v :: r ∧ Typed P t v ∧ TypedAll P ts r := by
  cases h with
  | cons _ v _ r h1 h2 => exact ⟨v, r, rfl, h1, h2⟩
end
theorem wf_i64 {n : Int} (h : (Lit.int .i64 n).wf = true) : -9223372036854775808 ≤ n ∧ n ≤ 9223372036854775807 := by
  simpa [Lit.wf, IntKind.min, IntKind.max, IntKind.signed, IntKind.bits] using h
end Go.Ev

namespace Go.Ev

theorem setCell_heap (w : World) (g o : Nat) (cur : Array Value) (v : Value) (t : TypeId) (fr : Nat × Nat) (hg : w.heap[g]? = some (.cells cur t fr)) : (w.setCell ⟨g, o, none⟩ v).heap[g]? = some (.cells (cur.setIfInBounds o v) t fr) := by
  have hlt : g < w.heap.size := (Array.getElem?_eq_some_iff.1 hg).1
  have hv : w.heap[g] = .cells cur t fr := (Array.getElem?_eq_some_iff.1 hg).2
  unfold World.setCell
  rw [Array.getElem?_eq_getElem (by simpa using hlt), Array.getElem_modify]
  simp [hv]
theorem alloc_heap (w : World) (o : Obj) : (w.alloc o).heap[w.heap.size]? = some o := by
  show (w.heap.push o)[w.heap.size]? = some o
  rw [Array.getElem?_push]
  simp

/-- Rows of bytes, each in a block of its own, in a row of rows. -/
structure RowsOf (w : World) (b N : Nat) (A : Nat → Option Addr) (n cp g : Nat → Nat) : Prop where
  cell : ∀ j, j < N → w.cell? ⟨b, j, none⟩ = some (.slice (A j) (n j) (cp j))
  small : ∀ j, j < N → n j ≤ cp j ∧ cp j ≤ 9223372036854775807
  at_ : ∀ j, j < N → 0 < cp j → A j = some ⟨g j, 0, none⟩ ∧ g j ≠ b ∧ ∃ cu t fr, w.heap[g j]? = some (.cells cu t fr) ∧ Thawed cu fr ∧ cp j ≤ cu.size
  apart : ∀ i j, i < N → j < N → 0 < cp i → 0 < cp j → g i = g j → i = j

/-- What stands of the rows while they are written over. -/
structure Written (w wr : World) (N : Nat) (cp g : Nat → Nat) (f : Nat → Nat) : Prop where
  os : wr.os = w.os
  tape : wr.tape = w.tape
  output : wr.output = w.output
  size : wr.heap.size = w.heap.size
  same : ∀ k, (∀ j, j < N → 0 < cp j → k ≠ g j) → wr.heap[k]? = w.heap[k]?
  row : ∀ j, j < N → 0 < cp j → ∃ cu t fr, wr.heap[g j]? = some (.cells cu t fr) ∧ Thawed cu fr ∧ cp j ≤ cu.size ∧ ∀ q, q < f j → q < cp j → cu[q]? = some (.int .u8 (IntKind.u8.wrap ((j : Int) + 1)))

section
variable {w wr : World} {b N : Nat} {A : Nat → Option Addr} {n cp g f f' : Nat → Nat}

theorem Written.start (h : RowsOf w b N A n cp g) : Written w w N cp g (fun _ => 0) :=
  ⟨rfl, rfl, rfl, rfl, fun _ _ => rfl, fun j hj hc => by
    obtain ⟨_, _, cu, t, fr, h1, h2, h3⟩ := h.at_ j hj hc
    exact ⟨cu, t, fr, h1, h2, h3, fun q hq => absurd hq (Nat.not_lt_zero _)⟩⟩
theorem Written.weaken (h : Written w wr N cp g f) (hf : ∀ j, j < N → 0 < cp j → f' j ≤ f j ∨ cp j ≤ f j) : Written w wr N cp g f' :=
  ⟨h.os, h.tape, h.output, h.size, h.same, fun j hj hc => by
    obtain ⟨cu, t, fr, h1, h2, h3, h4⟩ := h.row j hj hc
    exact ⟨cu, t, fr, h1, h2, h3, fun q hq hqc => h4 q (by rcases hf j hj hc with h | h <;> omega) hqc⟩⟩
theorem Written.cell (h : Written w wr N cp g f) (hR : RowsOf w b N A n cp g) {j : Nat} (hj : j < N) : wr.cell? ⟨b, j, none⟩ = some (.slice (A j) (n j) (cp j)) := by
  rw [cell_same (w := w) (h.same b fun j hj hc e => (hR.at_ j hj hc).2.1 e.symm)]
  exact hR.cell j hj
theorem Written.put (h : Written w wr N cp g f) (hR : RowsOf w b N A n cp g) {i k : Nat} (hi : i < N) (hk : k < cp i) (hf : f i = k) :
    Written w (wr.setCell ⟨g i, k, none⟩ (.int .u8 (IntKind.u8.wrap ((i : Int) + 1)))) N cp g (fun j => if j = i then k + 1 else f j) := by
  obtain ⟨cu, t, fr, h1, h2, h3, h4⟩ := h.row i hi (by omega)
  have hne : ∀ q, q ≠ g i → (wr.setCell ⟨g i, k, none⟩ (.int .u8 (IntKind.u8.wrap ((i : Int) + 1)))).heap[q]? = wr.heap[q]? := fun q hq => by
    simp [World.setCell, Array.getElem?_modify, Ne.symm hq]
  refine ⟨h.os, h.tape, h.output, by simp [World.setCell, h.size], fun q hq => ?_, fun j hj hc => ?_⟩
  · rw [hne q (hq i hi (by omega))]
    exact h.same q hq
  · by_cases hji : j = i
    · subst hji
      refine ⟨_, t, fr, setCell_heap wr (g j) k cu _ t fr h1, h2.size (by simp), by simpa using h3, fun q hq hqc => ?_⟩
      rw [if_pos rfl] at hq
      rw [Array.getElem?_setIfInBounds]
      by_cases hqk : k = q
      · subst hqk
        rw [if_pos rfl, if_pos (by omega)]
      · rw [if_neg hqk]
        exact h4 q (by omega) hqc
    · obtain ⟨cu', t', fr', g1, g2, g3, g4⟩ := h.row j hj hc
      have hgj : g j ≠ g i := fun e => hji (hR.apart j i hj hi hc (by omega) e)
      exact ⟨cu', t', fr', by rw [hne _ hgj]; exact g1, g2, g3, fun q hq hqc => g4 q (by rw [if_neg hji] at hq; exact hq) hqc⟩
theorem Written.thaw (h : Written w wr N cp g f) {i k : Nat} (hi : i < N) (hk : k < cp i) : (∃ v, wr.cell? ⟨g i, k, none⟩ = some v) ∧ wr.frozen? ⟨g i, k, none⟩ = false := by
  obtain ⟨cu, t, fr, h1, h2, h3, h4⟩ := h.row i hi (by omega)
  constructor
  · exact ⟨cu[k]'(by omega), by
      have : k < cu.size := by omega
      simp [World.cell?, h1, this]⟩
  · simp only [World.frozen?, h1]
    have := h2.out k (by omega)
    simp only [Bool.and_eq_false_iff, decide_eq_false_iff_not]
    omega
theorem Written.byte (h : Written w wr N cp g cp) {i k : Nat} (hi : i < N) (hk : k < cp i) : wr.cell? ⟨g i, k, none⟩ = some (.int .u8 (IntKind.u8.wrap ((i : Int) + 1))) := by
  obtain ⟨cu, t, fr, h1, h2, h3, h4⟩ := h.row i hi (by omega)
  simp only [World.cell?, h1]
  exact h4 k hk hk
end
theorem Written.drew {w wr : World} {N : Nat} {cp g f : Nat → Nat} (h : Written w wr N cp g f) : Written w wr.drew N cp g f := ⟨h.os, h.tape, h.output, h.size, h.same, h.row⟩


/-- vestrylaw01.Lent -/
def primLent : List OV → Option (List OV × List OV)
  | [.flat (.val (.sl none xs))] => match xs.all isByte && Nat.ble (xs.length + 1) 140737488355328 with
    | true => some ([.flat (.own none xs [.int .u8 77])], [])
    | false => none
  | _ => none
theorem map_toI {xs : List PV} (hb : xs.all isByte = true) : (xs.map PV.toI).map (PV.int .u8) = xs := by
  induction xs with
  | nil => rfl
  | cons x r ih =>
    simp only [List.all_cons, Bool.and_eq_true] at hb
    simp only [List.map_cons]
    rw [ih hb.2, ← isByte_inv hb.1]
theorem primLent_spec {P : Program} {f : FuncId} (hn : ∀ w : World, Calls P f #[.slice none 0 0] w fun e w' => ∃ v', e = .returned v' ∧ NewRow w w' [] [.int .u8 77] v')
    (ha : ∀ (a : Addr) (n c : Nat) (xs : List Int) (w : World), xs.length = n → n + 1 ≤ 140737488355328 → (∀ i, i < n → w.cell? (a.add i) = some (.int .u8 (xs.getD i 0))) →
      Calls P f #[.slice (some a) n c] w fun e w' => ∃ v', e = .returned v' ∧ NewRow w w' (xs.map (PV.int .u8)) [.int .u8 77] v')
    {os : List OV} {rr : List OV × List OV} (hp : primLent os = some rr) : CallSpec P f os rr.1 rr.2 := by
  unfold primLent at hp
  split at hp
  · rename_i xs
    split at hp
    · rename_i hc
      cases hp
      simp only [Bool.and_eq_true] at hc
      obtain ⟨hb, hl⟩ := hc
      rw [Nat.ble_eq] at hl
      refine newRow_spec (os := [.sl none xs]) (fun x hx => isByte_cell (List.all_eq_true.1 hb x hx)) fun w us hlen hr => ?_
      match us, hlen with
      | [u], _ =>
        obtain ⟨O, hu⟩ := hr 0 _ rfl
        obtain ⟨A, c, rfl, h2, h3, h4⟩ := bytes_read hb hu
        cases A with
        | none =>
          have : c = 0 := h3 rfl
          subst this
          have hx : xs = [] := List.length_eq_zero_iff.1 (by omega)
          subst hx
          exact hn w
        | some a =>
          have := ha a xs.length c (xs.map PV.toI) w (by simp) hl (h4 a rfl)
          rw [map_toI hb] at this
          exact this
    · cases hp
  · cases hp

/-- vestrylaw01.Owned -/
def isRowB : FV → Bool
  | .own none _ _ => true
  | .nil none => true
  | _ => false
def primOwned : List OV → Option (List OV × List OV)
  | [.cont .nest cs] => match cs.all isRowB && Nat.ble cs.length 1000000 with
    | true => some ([.flat (.val (.bool true))], [.flat .gone])
    | false => none
  | _ => none
def rowA : Value → Option Addr
  | .slice A _ _ => A
  | _ => none
def rowN : Value → Nat
  | .slice _ n _ => n
  | _ => 0
def rowC : Value → Nat
  | .slice _ _ c => c
  | _ => 0
def rowG : Value → Nat
  | .slice (some a) _ _ => a.block
  | _ => 0
theorem rowB_rep {w : World} {O : Nat → Prop} {f : FV} {u : Value} {m : Option Nat} (hf : isRowB f = true) (h : FRep w O f u m) : u = .slice (rowA u) (rowN u) (rowC u) ∧ rowN u ≤ rowC u ∧ rowC u ≤ 9223372036854775807 ∧
    (0 < rowC u → rowA u = some ⟨rowG u, 0, none⟩ ∧ m = some (rowG u) ∧ ∃ cu t fr, w.heap[rowG u]? = some (.cells cu t fr) ∧ Thawed cu fr ∧ rowC u ≤ cu.size) := by
  cases h with
  | val => cases hf
  | nil => exact ⟨rfl, Nat.le_refl _, Nat.zero_le _, fun h => absurd h (Nat.lt_irrefl _)⟩
  | ownE => exact ⟨rfl, Nat.le_refl _, Nat.zero_le _, fun h => absurd h (Nat.lt_irrefl _)⟩
  | own sh xs sp b c cur e fr us h =>
    have hsh : sh = none := by
      cases sh with
      | none => rfl
      | some => cases hf
    subst hsh
    exact ⟨rfl, h.len, h.capL, fun _ => ⟨rfl, rfl, cur, e, fr, h.heap, h.thaw, by
      have := h.size
      simp only [shN, Nat.mul_one] at this
      exact this⟩⟩
  | gone => cases hf
theorem primOwned_spec {P : Program} {f : FuncId} (hn : ∀ (A : Option Addr) (w : World), Calls P f #[.slice A 0 0] w fun e w' => e = .returned (.bool true) ∧ w'.heap = w.heap ∧ w'.os = w.os ∧ w'.tape = w.tape ∧ w'.output = w.output)
    (ha : ∀ (w : World) (b N c0 : Nat) (A : Nat → Option Addr) (n cp g : Nat → Nat), RowsOf w b N A n cp g → N ≤ 4611686018427387904 →
      Calls P f #[.slice (some ⟨b, 0, none⟩) N c0] w fun e w' => e = .returned (.bool true) ∧ Written w w' N cp g cp)
    {os : List OV} {rr : List OV × List OV} (hp : primOwned os = some rr) : CallSpec P f os rr.1 rr.2 := by
  unfold primOwned at hp
  split at hp
  · rename_i cs
    split at hp
    · rename_i hc
      cases hp
      simp only [Bool.and_eq_true] at hc
      obtain ⟨hb, hl⟩ := hc
      rw [Nat.ble_eq] at hl
      intro w Oc us ab hlen hOc hS
      match us, hlen with
      | [u], _ =>
        have out : ∀ w' : World, Grow w w' ab → CallOut w w' Oc ab [u] [.flat (.val (.bool true))] [.flat .gone] (.bool true) := by
          intro w' _
          refine ⟨⟨1, startSlots 1 [.flat (.val (.bool true))], fun _ => .bool true, fun _ _ => none, ⟨fun t => ?_, fun t c t' c' k q => (by cases q), fun t c k q => (by cases q)⟩, fun t c k q => (by cases q), Nat.le_refl _, fun i o hi hg => ?_, fun j o hj => ?_, rfl⟩⟩
          · rw [get_start]
            split
            · cases ht : t - 1 with
              | zero => exact .flat _ _ _ (.val _ _ (.bool true))
              | succ k => exact fun _ => rfl
            · exact fun _ => rfl
          · cases i with
            | zero => simp at hi; exact absurd hi.symm hg
            | succ i => simp at hi
          · cases j with
            | zero => simp at hj; subst hj; rfl
            | succ j => simp at hj
        have hr := hS.rep 0
        have hr : ORep w (ab.off Oc) (.cont .nest cs) u (ab 0 none) (fun j => ab 0 (some j)) := hr
        generalize hm : ab 0 none = m at hr
        generalize hβ : (fun j => ab 0 (some j)) = β at hr
        cases hr with
        | nestE A =>
          refine (hn A w).mono fun e w' ⟨he, h1, h2, h3, h4⟩ => ?_
          have hG : Grow w w' ab := ⟨h2, h3, h4, by rw [h1]; exact Nat.le_refl _, fun k _ _ => by rw [h1]⟩
          exact ⟨_, he, hG, out w' hG⟩
        | nest _ b c cur e fr _ hbk ht hcs hlc hk hg hcell =>
          have hv : ∀ j, j < cs.length → ∃ u, cur[j]? = some u ∧ isRowB (cs.getD j .gone) = true ∧ FRep w (ab.off Oc) (cs.getD j .gone) u (β j) := by
            intro j hj
            have hf : cs[j]? = some cs[j] := List.getElem?_eq_getElem hj
            obtain ⟨u, h1, h2⟩ := hcell.rep j _ hf
            have e1 : cs.getD j .gone = cs[j] := by simp [List.getD, hf]
            rw [e1]
            exact ⟨u, h1, List.all_eq_true.1 hb _ (List.getElem_mem hj), h2⟩
          let val : Nat → Value := fun j => cur.getD j Go.undef
          have hval : ∀ j, j < cs.length → cur[j]? = some (val j) ∧ val j = .slice (rowA (val j)) (rowN (val j)) (rowC (val j)) ∧ rowN (val j) ≤ rowC (val j) ∧ rowC (val j) ≤ 9223372036854775807 ∧
              (0 < rowC (val j) → rowA (val j) = some ⟨rowG (val j), 0, none⟩ ∧ ab 0 (some j) = some (rowG (val j)) ∧ ∃ cu t fr, w.heap[rowG (val j)]? = some (.cells cu t fr) ∧ Thawed cu fr ∧ rowC (val j) ≤ cu.size) := by
            intro j hj
            obtain ⟨u, h1, h2, h3⟩ := hv j hj
            have e1 : val j = u := by simp [val, Array.getD_eq_getD_getElem?, h1]
            rw [e1]
            obtain ⟨g1, g2, g3, g4⟩ := rowB_rep h2 h3
            refine ⟨h1, g1, g2, g3, fun hc => ?_⟩
            obtain ⟨k1, k2, k3⟩ := g4 hc
            rw [← hβ] at k2
            exact ⟨k1, k2, k3⟩
          have hR : RowsOf w b cs.length (fun j => rowA (val j)) (fun j => rowN (val j)) (fun j => rowC (val j)) (fun j => rowG (val j)) := by
            refine ⟨fun j hj => ?_, fun j hj => ⟨(hval j hj).2.2.1, (hval j hj).2.2.2.1⟩, fun j hj hc => ?_, fun i j hi hj hci hcj e => ?_⟩
            · have h1 := (hval j hj).1
              simp only [World.cell?, hbk]
              rw [← (hval j hj).2.1]
              simpa using h1
            · obtain ⟨k1, k2, k3⟩ := (hval j hj).2.2.2.2 hc
              refine ⟨k1, fun e => ?_, k3⟩
              have hmb : ab 0 none = some b := hm
              rw [e] at k2
              have := (hS.inj _ _ _ _ _ hmb k2).2
              cases this
            · obtain ⟨_, k2, _⟩ := (hval i hi).2.2.2.2 hci
              obtain ⟨_, l2, _⟩ := (hval j hj).2.2.2.2 hcj
              rw [e] at k2
              have := (hS.inj _ _ _ _ _ k2 l2).2
              cases this
              rfl
          refine (ha w b cs.length c _ _ _ _ hR (by omega)).mono fun e' w' ⟨he, hW⟩ => ?_
          have hG : Grow w w' ab := ⟨hW.os, hW.tape, hW.output, by rw [hW.size]; exact Nat.le_refl _, fun k _ hk => hW.same k fun j hj hc e => hk ⟨0, some j, by rw [((hval j hj).2.2.2.2 hc).2.1, e]⟩⟩
          exact ⟨_, he, hG, out w' hG⟩
    · cases hp
  · cases hp

/-- Bytes made a string. -/
theorem bytes_string {P : Program} {w : World} {xs : List PV} {A : Option Addr} {c : Nat} (hb : xs.all isByte = true) (hA : A = none → c = 0) (hc : xs.length ≤ c)
    (h : ∀ a, A = some a → ∀ i, i < xs.length → w.cell? (a.add i) = some (.int .u8 ((xs.map PV.toI).getD i 0))) :
    ∃ s : ByteArray, (Conv.bytesToString (.slice A xs.length c)).run P w = .ok (.string s) w ∧ s.toList = xs.map u8Of := by
  cases A with
  | none =>
    have : c = 0 := hA rfl
    have hx : xs = [] := List.length_eq_zero_iff.1 (by omega)
    subst hx
    exact ⟨.empty, by simp [Conv.bytesToString], by simp [ByteArray.toList_eq]⟩
  | some a =>
    have hl := run_loadCells_list (P := P) w a ((xs.map PV.toI).map (Value.int .u8)) (fun j v hj => by
      rw [List.getElem?_map, Option.map_eq_some_iff] at hj
      obtain ⟨n, hn, rfl⟩ := hj
      have hjl : j < xs.length := by simpa using (List.getElem?_eq_some_iff.1 hn).1
      rw [h a rfl j hjl]
      simp [List.getD, hn])
    simp only [List.length_map] at hl
    have hb' := run_bytesToString (P := P) w a xs.length c (xs.map PV.toI) hl
    refine ⟨_, hb', ?_⟩
    rw [ByteArray.toList_eq, fold_push]
    have : ∀ l : List PV, l.all isByte = true → (l.map PV.toI).map (fun n => UInt8.ofNat n.toNat) = l.map u8Of := by
      intro l
      induction l with
      | nil => intro _; rfl
      | cons x r ih =>
        intro hl
        simp only [List.all_cons, Bool.and_eq_true] at hl
        simp only [List.map_cons]
        rw [ih hl.2, isByte_inv hl.1]
        rfl
    rw [this xs hb]
    simp

/-- vestrylaw01.Kept -/
def primKept : List OV → Option (List OV × List OV)
  | [.flat (.own none ys (s :: sp)), .flat (.val (.sl none xs))] => match ys.all isByte && xs.all isByte && isByte s && Nat.ble (xs.length + 1) 140737488355328 with
    | true => some ([.flat (.val (.bool ((ys.map u8Of == xs.map u8Of) && (s.toI == 77))))], [.flat (.own none ys (s :: sp)), .flat .gone])
    | false => none
  | _ => none
theorem primKept_spec {P : Program} {f : FuncId}
    (hno : ∀ (A0 : Option Addr) (n c : Nat) (A1 : Option Addr) (m c1 : Nat) (s0 s1 : ByteArray) (w : World), (Conv.bytesToString (.slice A0 n c)).run P w = .ok (.string s0) w → (Conv.bytesToString (.slice A1 m c1)).run P w = .ok (.string s1) w → (s0.toList == s1.toList) = false →
      Calls P f #[.slice A0 n c, .slice A1 m c1] w fun e w' => e = .returned (.bool false) ∧ w' = w)
    (hyes : ∀ (b n c : Nat) (A1 : Option Addr) (m c1 : Nat) (s0 s1 : ByteArray) (z : Int) (w : World), (Conv.bytesToString (.slice (some ⟨b, 0, none⟩) n c)).run P w = .ok (.string s0) w → (Conv.bytesToString (.slice A1 m c1)).run P w = .ok (.string s1) w → (s0.toList == s1.toList) = true →
      m + 1 ≤ c → m + 1 ≤ 140737488355328 → w.cell? ⟨b, m, none⟩ = some (.int .u8 z) → Calls P f #[.slice (some ⟨b, 0, none⟩) n c, .slice A1 m c1] w fun e w' => e = .returned (.bool (z == 77)) ∧ w' = w)
    {os : List OV} {rr : List OV × List OV} (hp : primKept os = some rr) : CallSpec P f os rr.1 rr.2 := by
  unfold primKept at hp
  split at hp
  · rename_i ys s sp xs
    split at hp
    · rename_i hc
      cases hp
      simp only [Bool.and_eq_true] at hc
      obtain ⟨⟨⟨hby, hbx⟩, hs⟩, hl⟩ := hc
      rw [Nat.ble_eq] at hl
      intro w Oc us ab hlen hOc hS
      match us, hlen with
      | [u0, u1], _ =>
        have out : ∀ r : Bool, CallOut w w Oc ab [u0, u1] [.flat (.val (.bool r))] [.flat (.own none ys (s :: sp)), .flat .gone] (.bool r) := by
          intro r
          refine ⟨⟨2, startSlots 0 [.flat (.own none ys (s :: sp)), .flat (.val (.sl none xs)), .flat (.val (.bool r))], fun t => if t = 2 then .bool r else [u0, u1].getD t Go.undef, ab, ⟨fun t => ?_, hS.inj, hS.out⟩, fun t c k q => .inl ⟨t, c, q⟩, Nat.le_refl _, fun i o hi hg => ?_, fun j o hj => ?_, rfl⟩⟩
          · have ht := hS.rep t
            rw [get_start, if_pos (Nat.zero_le _), Nat.sub_zero] at ht ⊢
            match t with
            | 0 => exact ht
            | 1 => exact ht
            | 2 =>
              have hd : ∀ c, ab 2 c = none := ht
              show ORep w _ _ _ (ab 2 none) (fun j => ab 2 (some j))
              have e : (fun j => ab 2 (some j)) = fun _ => none := funext fun j => hd _
              rw [hd none, e]
              exact .flat _ _ _ (.val _ _ (.bool r))
            | t + 3 =>
              have e : ([OV.flat (.own none ys (s :: sp)), .flat (.val (.sl none xs)), .flat (.val (.bool r))] : List OV)[t + 3]? = none := by simp
              have e' : ([OV.flat (.own none ys (s :: sp)), .flat (.val (.sl none xs))] : List OV)[t + 3]? = none := by simp
              rw [e'] at ht
              rw [e]
              have hd : ∀ c, ab (t + 3) c = none := ht
              exact hd
          · match i with
            | 0 => simp at hi; subst hi; exact ⟨rfl, rfl, by simp⟩
            | 1 => simp at hi; exact absurd hi.symm hg
            | i + 2 => simp at hi
          · cases j with
            | zero => simp at hj; subst hj; rfl
            | succ j => simp at hj
        have h0 : ORep w (ab.off Oc) (.flat (.own none ys (s :: sp))) u0 (ab 0 none) (fun j => ab 0 (some j)) := hS.rep 0
        have h1 : ORep w (ab.off Oc) (.flat (.val (.sl none xs))) u1 (ab 1 none) (fun j => ab 1 (some j)) := hS.rep 1
        have hf0 := (ORep.flat_inv h0).1
        have hv1 := (ORep.flat_inv h1).1.val_inv.1
        obtain ⟨A1, c1, rfl, x2, x3, x4⟩ := bytes_read hbx hv1
        obtain ⟨s1, r1, e1⟩ := bytes_string (P := P) hbx x3 x2 x4
        generalize ab 0 none = m0 at hf0
        cases hf0 with
        | own _ _ _ b c cur e fr vs h =>
          have hcell : ∀ i, i < ys.length → w.cell? ((⟨b, 0, none⟩ : Addr).add i) = some (.int .u8 ((ys.map PV.toI).getD i 0)) := by
            intro i hi
            have hy : ys[i]? = some ys[i] := List.getElem?_eq_getElem hi
            have hbi : isByte ys[i] = true := List.all_eq_true.1 hby _ (List.getElem_mem hi)
            have hcs := cells_of_isCell (isByte_cell hbi)
            have g1 := h.at_ i ys[i] 0 ys[i] hy (by rw [hcs]; rfl)
            have g2 := h.rep i ys[i] 0 ys[i] hy (by rw [hcs]; rfl)
            rw [isByte_inv hbi] at g2
            rw [g2.int_inv] at g1
            simp only [shN, Nat.mul_one, Nat.add_zero] at g1
            rw [addr_add]
            simp only [World.cell?, h.heap, Nat.zero_add]
            rw [show (ys.map PV.toI).getD i 0 = ys[i].toI by simp [List.getD, hy]]
            simpa using g1
          obtain ⟨s0, r0, e0⟩ := bytes_string (P := P) (A := some ⟨b, 0, none⟩) (c := c) hby (by simp) h.len (by intro a ha i hi; cases ha; exact hcell i hi)
          by_cases heq : ys.map u8Of = xs.map u8Of
          · have hle : ys.length = xs.length := by simpa using congrArg List.length heq
            obtain ⟨u, g1, g2⟩ := h.spare 0 s rfl
            rw [isByte_inv hs] at g2
            have := g2.int_inv
            subst this
            simp only [shN, Nat.mul_one, Nat.add_zero] at g1
            have hlt : ys.length < cur.size := (Array.getElem?_eq_some_iff.1 g1).1
            have hsz : ys.length + 1 ≤ c := by
              have := h.spL
              simp only [List.length_cons] at this
              omega
            refine (hyes b ys.length c A1 xs.length c1 s0 s1 s.toI w r0 r1 (by rw [e0, e1]; simpa using heq) (by omega) hl (by rw [← hle]; simp only [World.cell?, h.heap]; simpa using g1)).mono fun e' w' ⟨he, hw⟩ => ?_
            subst hw
            refine ⟨_, he, Grow.refl _ _, ?_⟩
            have e2 : ((ys.map u8Of == xs.map u8Of) && (s.toI == 77)) = (s.toI == 77) := by simp [heq]
            rw [e2]
            exact out _
          · refine (hno (some ⟨b, 0, none⟩) ys.length c A1 xs.length c1 s0 s1 w r0 r1 (by rw [e0, e1]; simpa using heq)).mono fun e' w' ⟨he, hw⟩ => ?_
            subst hw
            refine ⟨_, he, Grow.refl _ _, ?_⟩
            have e2 : ((ys.map u8Of == xs.map u8Of) && (s.toI == 77)) = false := by simp [heq]
            rw [e2]
            exact out _
    · cases hp
  · cases hp
end Go.Ev

namespace Go.Lib
section
variable {P : Program} (w : World)
/-- The entry internal/bytealg.IndexByte, at whatever address. -/
theorem run_indexByteAt (a : Addr) (n c : Nat) (xs : List Int) (hx : xs.length = n) (hc : ∀ i, i < n → w.cell? (a.add i) = some (.int .u8 (xs.getD i 0))) (cv : Int) :
    (Extern.BytealgIndexByte.indexByte #[.slice (some a) n c, .int .u8 cv]).run P w = .ok (.int .i64 (indexByte (bytesOf xs) cv.toNat.toUInt8)) w := by
  have hl := run_loadBytesX (P := P) w xs a .empty (fun j x hj => by
    have hjl : j < xs.length := (List.getElem?_eq_some_iff.1 hj).1
    rw [hc j (by omega), List.getD_eq_getElem?_getD, hj]
    rfl)
  rw [hx] at hl
  have hs := run_indexByteString (P := P) ⟨(bytesOf xs).toArray⟩ cv w
  have he : (⟨ByteArray.empty.data ++ (bytesOf xs).toArray⟩ : ByteArray) = ⟨(bytesOf xs).toArray⟩ := by
    apply ByteArray.ext
    show (#[] : Array UInt8) ++ (bytesOf xs).toArray = (bytesOf xs).toArray
    simp
  rw [he] at hl
  change Sem.run P (do
    let b ← Extern.Bytes.bytesOf (.slice (some a) n c)
    let c ← Extern.Bytes.asByte (.int .u8 cv)
    match (List.range b.size).find? fun i => b[i]! == c with
    | some i => pure (goInt i)
    | none => pure (goInt (-1))) w = _
  change Sem.run P (do
    let b ← Extern.Bytes.bytesOf (.string ⟨(bytesOf xs).toArray⟩)
    let c ← Extern.Bytes.asByte (.int .u8 cv)
    match (List.range b.size).find? fun i => b[i]! == c with
    | some i => pure (goInt i)
    | none => pure (goInt (-1))) w = _ at hs
  simp only [Extern.Bytes.bytesOf, Sem.run_bind, Sem.run_pure, hl, Result.andThen] at hs ⊢
  exact hs
end
end Go.Lib
namespace Go.Ev

theorem bytesOf_u8 {xs : List PV} (h : xs.all isByte = true) : Lib.bytesOf (xs.map PV.toI) = xs.map u8Of := by
  simp only [Lib.bytesOf, List.map_map]
  refine List.map_congr_left fun x hx => ?_
  have := isByte_inv (List.all_eq_true.1 h x hx)
  rw [this]
  rfl
/-- bytes.IndexByte. -/
def primIndexByte : List OV → Option (List OV × List OV)
  | [.flat (.val (.sl none xs)), .flat (.val (.int .u8 c))] => match xs.all isByte with
    | true => some ([.flat (.val (.int .i64 (Lib.indexByte (xs.map u8Of) c.toNat.toUInt8)))], [])
    | false => none
  | _ => none
theorem primIndexByte_spec {P : Program} {f : FuncId} (h : ∀ (A : Option Addr) (n c : Nat) (xs : List Int) (cv : Int) (w : World), xs.length = n → (A = none → n = 0) → (∀ a, A = some a → ∀ i, i < n → w.cell? (a.add i) = some (.int .u8 (xs.getD i 0))) →
      Calls P f #[.slice A n c, .int .u8 cv] w fun e w' => e = .returned (.int .i64 (Lib.indexByte (Lib.bytesOf xs) cv.toNat.toUInt8)) ∧ w' = w)
    {os : List OV} {rr : List OV × List OV} (hp : primIndexByte os = some rr) : CallSpec P f os rr.1 rr.2 := by
  unfold primIndexByte at hp
  split at hp
  · rename_i xs c
    split at hp
    · rename_i hb
      cases hp
      refine quiet_spec (os := [.sl none xs, .int .u8 c]) (rs := [.int .i64 (Lib.indexByte (xs.map u8Of) c.toNat.toUInt8)]) fun w us hl hr => ?_
      match us, hl with
      | [x, y], _ =>
        obtain ⟨O, hx⟩ := hr 0 _ rfl
        obtain ⟨O', hy⟩ := hr 1 _ rfl
        obtain ⟨A, c1, h1, h2, h3, h4⟩ := bytes_read hb hx
        have hy' := hy.int_inv
        simp only [List.getD_cons_zero, List.getD_cons_succ] at h1 hy'
        subst h1 hy'
        have := h A xs.length c1 (xs.map PV.toI) c w (by simp) (fun e => by have := h3 e; omega) (fun a ha i hi => h4 a ha i hi)
        rw [bytesOf_u8 hb] at this
        refine this.mono fun e w' ⟨he, hw⟩ => ⟨fun _ => .int .i64 (Lib.indexByte (xs.map u8Of) c.toNat.toUInt8), he, hw, fun j p hj => ?_⟩
        match j, hj with
        | 0, rfl => exact fun w O => .int _ _
    · cases hp
  · cases hp
/-- bytes.Count of one byte. -/
def primCountOne : List OV → Option (List OV × List OV)
  | [.flat (.val (.sl none xs)), .flat (.val (.sl none [.int .u8 c]))] => match xs.all isByte with
    | true => some ([.flat (.val (.int .i64 ((Lib.countByte (xs.map u8Of) c.toNat.toUInt8 : Nat) : Int)))], [])
    | false => none
  | _ => none
theorem primCountOne_spec {P : Program} {f : FuncId} (h : ∀ (A : Option Addr) (n c : Nat) (xs : List Int) (a2 : Addr) (d : Nat) (cv : Int) (w : World), xs.length = n → (A = none → n = 0) → (∀ a, A = some a → ∀ i, i < n → w.cell? (a.add i) = some (.int .u8 (xs.getD i 0))) →
      w.cell? a2 = some (.int .u8 cv) → Calls P f #[.slice A n c, .slice (some a2) 1 d] w fun e w' => e = .returned (.int .i64 ((Lib.countByte (Lib.bytesOf xs) cv.toNat.toUInt8 : Nat) : Int)) ∧ w' = w)
    {os : List OV} {rr : List OV × List OV} (hp : primCountOne os = some rr) : CallSpec P f os rr.1 rr.2 := by
  unfold primCountOne at hp
  split at hp
  · rename_i xs c
    split at hp
    · rename_i hb
      cases hp
      refine quiet_spec (os := [.sl none xs, .sl none [.int .u8 c]]) (rs := [.int .i64 ((Lib.countByte (xs.map u8Of) c.toNat.toUInt8 : Nat) : Int)]) fun w us hl hr => ?_
      match us, hl with
      | [x, y], _ =>
        obtain ⟨O, hx⟩ := hr 0 _ rfl
        obtain ⟨O', hy⟩ := hr 1 _ rfl
        obtain ⟨A, c1, h1, h2, h3, h4⟩ := bytes_read hb hx
        obtain ⟨A2, c2, g1, g2, g3, g4, g5⟩ := hy.sl_inv
        simp only [List.getD_cons_zero, List.getD_cons_succ, List.length_cons, List.length_nil, Nat.zero_add] at h1 g1 g2
        subst h1 g1
        obtain ⟨_, a2, z, e1, _, e2, e3⟩ := g5 0 (.int .u8 c) 0 (.int .u8 c) rfl rfl
        have := e3.int_inv
        subst e1 this
        have e4 : a2.add (0 * shN none + 0) = a2 := by simp [Addr.add]
        rw [e4] at e2
        have := h A xs.length c1 (xs.map PV.toI) a2 c2 c w (by simp) (fun e => by have := h3 e; omega) (fun a ha i hi => h4 a ha i hi) e2
        rw [bytesOf_u8 hb] at this
        refine this.mono fun e w' ⟨he, hw⟩ => ⟨fun _ => .int .i64 ((Lib.countByte (xs.map u8Of) c.toNat.toUInt8 : Nat) : Int), he, hw, fun j p hj => ?_⟩
        match j, hj with
        | 0, rfl => exact fun w O => .int _ _
    · cases hp
  · cases hp
/-- bytes.Compare. -/
def primBytesCompare : List OV → Option (List OV × List OV)
  | [.flat (.val (.sl none xs)), .flat (.val (.sl none ys))] => match xs.all isByte && ys.all isByte with
    | true => some ([.flat (.val (.int .i64 (Lib.compareBytes (xs.map u8Of) (ys.map u8Of))))], [])
    | false => none
  | _ => none
theorem primBytesCompare_spec {P : Program} {f : FuncId} (h : ∀ (A : Option Addr) (n c : Nat) (xs : List Int) (B : Option Addr) (m d : Nat) (ys : List Int) (w : World), xs.length = n → (A = none → n = 0) → (∀ a, A = some a → ∀ i, i < n → w.cell? (a.add i) = some (.int .u8 (xs.getD i 0))) →
      ys.length = m → (B = none → m = 0) → (∀ a, B = some a → ∀ i, i < m → w.cell? (a.add i) = some (.int .u8 (ys.getD i 0))) →
      Calls P f #[.slice A n c, .slice B m d] w fun e w' => e = .returned (.int .i64 (Lib.compareBytes (Lib.bytesOf xs) (Lib.bytesOf ys))) ∧ w' = w)
    {os : List OV} {rr : List OV × List OV} (hp : primBytesCompare os = some rr) : CallSpec P f os rr.1 rr.2 := by
  unfold primBytesCompare at hp
  split at hp
  · rename_i xs ys
    split at hp
    · rename_i hb
      cases hp
      simp only [Bool.and_eq_true] at hb
      obtain ⟨hb1, hb2⟩ := hb
      refine quiet_spec (os := [.sl none xs, .sl none ys]) (rs := [.int .i64 (Lib.compareBytes (xs.map u8Of) (ys.map u8Of))]) fun w us hl hr => ?_
      match us, hl with
      | [x, y], _ =>
        obtain ⟨O, hx⟩ := hr 0 _ rfl
        obtain ⟨O', hy⟩ := hr 1 _ rfl
        obtain ⟨A, c1, h1, h2, h3, h4⟩ := bytes_read hb1 hx
        obtain ⟨B, c2, g1, g2, g3, g4⟩ := bytes_read hb2 hy
        simp only [List.getD_cons_zero, List.getD_cons_succ] at h1 g1
        subst h1 g1
        have := h A xs.length c1 (xs.map PV.toI) B ys.length c2 (ys.map PV.toI) w (by simp) (fun e => by have := h3 e; omega) (fun a ha i hi => h4 a ha i hi) (by simp) (fun e => by have := g3 e; omega) (fun a ha i hi => g4 a ha i hi)
        rw [bytesOf_u8 hb1, bytesOf_u8 hb2] at this
        refine this.mono fun e w' ⟨he, hw⟩ => ⟨fun _ => .int .i64 (Lib.compareBytes (xs.map u8Of) (ys.map u8Of)), he, hw, fun j p hj => ?_⟩
        match j, hj with
        | 0, rfl => exact fun w O => .int _ _
    · cases hp
  · cases hp
end Go.Ev

namespace Go.Ev

section
variable {P : Program}

/-- What a function leaves that gives one row: the row's cells, in a block that it was given or has made. -/
structure RowOut (w w' : World) (has : Nat → Prop) (sz N : Nat) (L : List Value) (v : Value) : Prop where
  os : w'.os = w.os
  tape : w'.tape = w.tape
  output : w'.output = w.output
  size : w.heap.size ≤ w'.heap.size
  same : ∀ k, k < w.heap.size → ¬ has k → w'.heap[k]? = w.heap[k]?
  row : (N = 0 ∧ ∃ A, v = .slice A 0 0) ∨ ∃ (g c : Nat) (cur : Array Value) (e : TypeId) (fr : Nat × Nat), v = .slice (some ⟨g, 0, none⟩) N c ∧ (has g ∨ w.heap.size ≤ g) ∧ w'.heap[g]? = some (.cells cur e fr) ∧ fr.1 = fr.2 ∧
    c * sz ≤ cur.size ∧ N ≤ c ∧ c ≤ 9223372036854775807 ∧ cur.toList.take (N * sz) = L

/-- A call that answers one row. -/
theorem row_spec {f : FuncId} {os : List OV} {sh : Option Nat} {zs : List PV}
    (h : ∀ (w : World) (Oc : Nat → Prop) (us : List Value) (ab : Blk), us.length = os.length → (∀ k, Oc k → k < w.heap.size) → SRel w Oc (startSlots 0 os) (fun t => us.getD t Go.undef) ab →
      Calls P f us.toArray w fun e w' => ∃ v L, e = .returned v ∧ RowOut w w' ab.has (shN sh) zs.length L v ∧ L.length = zs.length * shN sh ∧ RowIn w (ab.off Oc) sh zs L.toArray) :
    CallSpec P f os [.flat (.own sh zs [])] [] := by
  intro w Oc us ab hlen hOc hS
  refine (h w Oc us ab hlen hOc hS).mono fun e w' ⟨v, L, he, hr, hL, hin⟩ => ?_
  have hab : ∀ k, ab.has k → ¬ Oc k ∧ k < w.heap.size := fun k ⟨t, c, q⟩ => hS.out t c k q
  have hG : Grow w w' ab := ⟨hr.os, hr.tape, hr.output, hr.size, fun k hk hno => hr.same k hk hno⟩
  have get1 : ∀ t, t ≠ us.length → (startSlots us.length [OV.flat (.own sh zs [])]).get t = .dead := by
    intro t ht
    rw [get_start]
    split
    · rename_i hle
      cases hk : t - us.length with
      | zero => omega
      | succ k => rfl
    · rfl
  have get2 : (startSlots us.length [OV.flat (.own sh zs [])]).get us.length = .home (.flat (.own sh zs [])) := by
    rw [get_start, if_pos (Nat.le_refl _), Nat.sub_self]
    rfl
  rcases hr.row with ⟨h0, A, rfl⟩ | ⟨g, c, cur, ety, fr, rfl, hg, hh, ht, hs, hnc, hcL, htk⟩
  · have hz : zs = [] := List.eq_nil_of_length_eq_zero h0
    subst hz
    refine ⟨_, he, hG, ⟨⟨us.length, startSlots us.length [.flat (.own sh [] [])], fun _ => .slice A 0 0, fun _ _ => none, ⟨fun t => ?_, fun t c t' c' k q => (by cases q), fun t c k q => (by cases q)⟩, fun t c k q => (by cases q), Nat.le_refl _, fun i o hi => (by simp at hi), fun j o hj => ?_, ?_⟩⟩⟩
    · by_cases htl : t = us.length
      · subst htl
        rw [get2]
        exact .flat _ _ _ (.ownE sh A)
      · rw [get1 t htl]
        exact fun _ => rfl
    · cases j with
      | zero => simp at hj; subst hj; exact get2
      | succ j => simp at hj
    · rfl
  · have hgl : g < w'.heap.size := (Array.getElem?_eq_some_iff.1 hh).1
    have hob : ∀ (t : Nat) (c : Option Nat) (k : Nat), (if t = us.length ∧ c = none then some g else none) = some k → t = us.length ∧ c = none ∧ k = g := by
      intro t c k q
      split at q
      · rename_i h1
        cases q
        exact ⟨h1.1, h1.2, rfl⟩
      · cases q
    have hmove : ∀ (O' : Nat → Prop), (∀ k, O' k → k = g ∨ Oc k) → ∀ (p : PV) (u : Value), RepV w (ab.off Oc) p u → RepV w' O' p u := by
      intro O' hO' p u hp
      refine hp.move fun k hk hno => ⟨hr.same k hk fun q => hno (.inl q), fun q => ?_⟩
      rcases hO' k q with rfl | q
      · rcases hg with q' | q'
        · exact hno (.inl q')
        · omega
      · exact hno (.inr q)
    refine ⟨_, he, hG, ⟨⟨us.length, startSlots us.length [.flat (.own sh zs [])], fun _ => .slice (some ⟨g, 0, none⟩) zs.length c, fun t c => if t = us.length ∧ c = none then some g else none, ⟨fun t => ?_, fun t c t' c' k q q' => ?_, fun t c k q => ?_⟩, fun t c k q => ?_, Nat.le_refl _, fun i o hi => (by simp at hi), fun j o hj => ?_, ?_⟩⟩⟩
    · by_cases htl : t = us.length
      · subst htl
        rw [get2]
        show ORep w' _ (.flat (.own sh zs [])) _ (if us.length = us.length ∧ (none : Option Nat) = none then some g else none) (fun j => if us.length = us.length ∧ some j = none then some g else none)
        have e1 : (if us.length = us.length ∧ (none : Option Nat) = none then some g else none) = some g := by simp
        have e2 : (fun j : Nat => if us.length = us.length ∧ some j = none then some g else none) = fun _ => none := by funext j; simp
        rw [e1, e2]
        have hget : ∀ (i : Nat) (x : PV) (j : Nat) (y : PV), zs[i]? = some x → x.cells[j]? = some y → cur[i * shN sh + j]? = L[i * shN sh + j]? := by
          intro i x j y hi hj
          have hj' : j < shN sh := by
            rw [← cells_length (hin.fits i x hi)]
            exact (List.getElem?_eq_some_iff.1 hj).1
          have hi' : i < zs.length := (List.getElem?_eq_some_iff.1 hi).1
          have hlt : i * shN sh + j < zs.length * shN sh := by
            have : (i + 1) * shN sh ≤ zs.length * shN sh := Nat.mul_le_mul_right _ hi'
            rw [Nat.add_mul, Nat.one_mul] at this
            omega
          rw [← htk, List.getElem?_take, if_pos hlt]
          simp
        refine .flat _ _ _ (.own sh zs [] g c cur ety fr (fun i j => cur.getD (i * shN sh + j) Go.undef) ⟨hh, ht, hs, hnc, hin.fits, hin.cell, fun i x j y hi hj => ?_, fun i x j y hi hj => ?_, fun j y hj => by simp at hj, hcL, by simpa using hnc⟩)
        all_goals
          obtain ⟨u, hu, hrep⟩ := hin.rep i x j y hi hj
          have hc := hget i x j y hi hj
          simp only [List.getElem?_toArray] at hu
          rw [hu] at hc
        · simp [Array.getD_eq_getD_getElem?, hc]
        · simp only [Array.getD_eq_getD_getElem?, hc, Option.getD_some]
          refine hmove _ (fun k q => ?_) _ _ hrep
          rcases q with ⟨t, c', q⟩ | q
          · exact .inl (hob _ _ _ q).2.2
          · exact .inr q
      · rw [get1 t htl]
        intro c
        simp [htl]
    · obtain ⟨a1, a2, _⟩ := hob _ _ _ q
      obtain ⟨b1, b2, _⟩ := hob _ _ _ q'
      exact ⟨a1.trans b1.symm, a2.trans b2.symm⟩
    · obtain ⟨_, _, rfl⟩ := hob _ _ _ q
      refine ⟨fun ho => ?_, hgl⟩
      rcases hg with q' | q'
      · exact (hab _ q').1 ho
      · exact absurd (hOc _ ho) (by omega)
    · obtain ⟨_, _, rfl⟩ := hob _ _ _ q
      exact hg
    · cases j with
      | zero => simp at hj; subst hj; exact get2
      | succ j => simp at hj
    · rfl

/-- What an argument says that is pure data. -/
theorem start_val {w : World} {Oc : Nat → Prop} {os : List OV} {us : List Value} {ab : Blk} (h : SRel w Oc (startSlots 0 os) (fun t => us.getD t Go.undef) ab) {i : Nat} {v : PV} (hi : os[i]? = some (.flat (.val v))) :
    RepV w (ab.off Oc) v (us.getD i Go.undef) := by
  have hr := h.rep i
  rw [get_start, if_pos (Nat.zero_le _), Nat.sub_zero, hi] at hr
  exact (ORep.flat_inv hr).1.val_inv.1
/-- A row that is read: its cells, as a list. -/
theorem RepV.rowCells {w : World} {O : Nat → Prop} {sh : Option Nat} {xs : List PV} {u : Value} (h : RepV w O (.sl sh xs) u) :
    ∃ (A : Option Addr) (c : Nat) (L : List Value), u = .slice A xs.length c ∧ xs.length ≤ c ∧ (A = none → c = 0) ∧ L.length = xs.length * shN sh ∧ RowIn w O sh xs L.toArray ∧ (∀ a, A = some a → ∀ j z, L[j]? = some z → w.cell? (a.add j) = some z) := by
  cases h with
  | slNil sh => exact ⟨none, 0, [], rfl, Nat.le_refl _, fun _ => rfl, by simp, ⟨fun i x hi => by simp at hi, fun i x j y hi => by simp at hi, fun i x j y hi => by simp at hi⟩, fun a h => by cases h⟩
  | sl sh xs a c us hc hf hk ho hm hr =>
    have hlen : ∀ x ∈ xs, x.cells.length = shN sh := fun x hx => by
      obtain ⟨i, hi⟩ := List.getElem?_of_mem hx
      exact cells_length (hf i x hi)
    let L : List Value := (List.range (xs.length * shN sh)).map fun q => us (q / shN sh) (q % shN sh)
    have hL : ∀ (i : Nat) (x : PV) (j : Nat) (y : PV), xs[i]? = some x → x.cells[j]? = some y → L[i * shN sh + j]? = some (us i j) := by
      intro i x j y hi hj
      have hj' : j < shN sh := by rw [← cells_length (hf i x hi)]; exact (List.getElem?_eq_some_iff.1 hj).1
      have hi' : i < xs.length := (List.getElem?_eq_some_iff.1 hi).1
      have hlt : i * shN sh + j < xs.length * shN sh := by
        have : (i + 1) * shN sh ≤ xs.length * shN sh := Nat.mul_le_mul_right _ hi'
        rw [Nat.add_mul, Nat.one_mul] at this
        omega
      have e1 : (i * shN sh + j) / shN sh = i := by rw [Nat.mul_comm, Nat.mul_add_div (by omega), Nat.div_eq_of_lt hj', Nat.add_zero]
      have e2 : (i * shN sh + j) % shN sh = j := by rw [Nat.mul_comm, Nat.mul_add_mod, Nat.mod_eq_of_lt hj']
      simp only [L]
      rw [List.getElem?_map, List.getElem?_range hlt]
      simp only [Option.map_some, e1, e2]
    refine ⟨some a, c, L, rfl, hc, fun e => (by cases e), by simp [L], ⟨hf, hk, fun i x j y hi hj => ⟨us i j, by simpa using hL i x j y hi hj, hr i x j y hi hj⟩⟩, fun a' ha j z hj => ?_⟩
    cases ha
    have hlt : j < xs.length * shN sh := by
      have := (List.getElem?_eq_some_iff.1 hj).1
      simpa [L] using this
    have hpos : 0 < shN sh := by
      rcases Nat.eq_zero_or_pos (shN sh) with h0 | h0
      · rw [h0] at hlt; omega
      · exact h0
    have hi' : j / shN sh < xs.length := by rw [Nat.div_lt_iff_lt_mul hpos]; exact hlt
    have hj' : j % shN sh < shN sh := Nat.mod_lt _ hpos
    have hx : xs[j / shN sh]? = some xs[j / shN sh] := List.getElem?_eq_getElem hi'
    have hy : (xs[j / shN sh]).cells[j % shN sh]? = some ((xs[j / shN sh]).cells[j % shN sh]'(by rw [cells_length (hf _ _ hx)]; exact hj')) := List.getElem?_eq_getElem _
    have h1 := hm _ _ _ _ hx hy
    have e : j / shN sh * shN sh + j % shN sh = j := by rw [Nat.mul_comm]; exact Nat.div_add_mod j (shN sh)
    rw [e] at h1
    have h2 := hL _ _ _ _ hx hy
    rw [e, hj] at h2
    cases h2
    exact h1
theorem RowIn.app {w : World} {O : Nat → Prop} {sh : Option Nat} {xs ys : List PV} {L M : List Value} (h1 : RowIn w O sh xs L.toArray) (h2 : RowIn w O sh ys M.toArray) (hl : L.length = xs.length * shN sh) : RowIn w O sh (xs ++ ys) (L ++ M).toArray := by
  refine ⟨fun i x hi => ?_, fun i x j y hi hj => ?_, fun i x j y hi hj => ?_⟩
  all_goals
    rcases Nat.lt_or_ge i xs.length with hlt | hge
    · rw [List.getElem?_append_left hlt] at hi
      first | exact h1.fits i x hi | exact h1.cell i x j y hi hj | (
        obtain ⟨z, hz, hr⟩ := h1.rep i x j y hi hj
        refine ⟨z, ?_, hr⟩
        simp only [List.getElem?_toArray] at hz ⊢
        rw [List.getElem?_append_left (List.getElem?_eq_some_iff.1 hz).1]
        exact hz)
    · rw [List.getElem?_append_right hge] at hi
      first | exact h2.fits _ x hi | exact h2.cell _ x j y hi hj | (
        obtain ⟨z, hz, hr⟩ := h2.rep _ x j y hi hj
        refine ⟨z, ?_, hr⟩
        simp only [List.getElem?_toArray] at hz ⊢
        have e : i * shN sh + j = L.length + ((i - xs.length) * shN sh + j) := by
          rw [hl, ← Nat.add_assoc, ← Nat.add_mul]
          congr 2
          omega
        rw [e, List.getElem?_append_right (by omega), Nat.add_sub_cancel_left]
        exact hz)
theorem RowIn.takeL {w : World} {O : Nat → Prop} {sh : Option Nat} {xs : List PV} {L : List Value} (h : RowIn w O sh xs L.toArray) (k : Nat) : RowIn w O sh (xs.take k) (L.take (k * shN sh)).toArray := by
  refine ⟨fun i x hi => ?_, fun i x j y hi hj => ?_, fun i x j y hi hj => ?_⟩
  all_goals
    rw [List.getElem?_take] at hi
    split at hi
    rotate_left
    · cases hi
    rename_i hik
  · exact h.fits i x hi
  · exact h.cell i x j y hi hj
  · obtain ⟨z, hz, hr⟩ := h.rep i x j y hi hj
    refine ⟨z, ?_, hr⟩
    have hj' : j < shN sh := by rw [← cells_length (h.fits i x hi)]; exact (List.getElem?_eq_some_iff.1 hj).1
    simp only [List.getElem?_toArray] at hz ⊢
    rw [List.getElem?_take, if_pos]
    · exact hz
    · have : (i + 1) * shN sh ≤ k * shN sh := Nat.mul_le_mul_right _ hik
      rw [Nat.add_mul, Nat.one_mul] at this
      omega
theorem RowIn.dropL {w : World} {O : Nat → Prop} {sh : Option Nat} {xs : List PV} {L : List Value} (h : RowIn w O sh xs L.toArray) (k : Nat) : RowIn w O sh (xs.drop k) (L.drop (k * shN sh)).toArray := by
  refine ⟨fun i x hi => ?_, fun i x j y hi hj => ?_, fun i x j y hi hj => ?_⟩
  all_goals rw [List.getElem?_drop] at hi
  · exact h.fits _ x hi
  · exact h.cell _ x j y hi hj
  · obtain ⟨z, hz, hr⟩ := h.rep _ x j y hi hj
    refine ⟨z, ?_, hr⟩
    simp only [List.getElem?_toArray] at hz ⊢
    rw [List.getElem?_drop, ← Nat.add_assoc, ← Nat.add_mul]
    exact hz
end
end Go.Ev

namespace Go.Ev

section
variable {P : Program}

/-- Of a block the cells are turned, all else stays. -/
structure Chg (w w' : World) (g : Nat) (L : List Value) (e : TypeId) (fr : Nat × Nat) : Prop where
  os : w'.os = w.os
  tape : w'.tape = w.tape
  output : w'.output = w.output
  size : w'.heap.size = w.heap.size
  same : ∀ k, k ≠ g → w'.heap[k]? = w.heap[k]?
  heap : w'.heap[g]? = some (.cells L.toArray e fr)
theorem Chg.trans {w w1 w2 : World} {g : Nat} {L M : List Value} {e : TypeId} {fr : Nat × Nat} (h : Chg w w1 g L e fr) (h' : Chg w1 w2 g M e fr) : Chg w w2 g M e fr :=
  ⟨h'.os.trans h.os, h'.tape.trans h.tape, h'.output.trans h.output, h'.size.trans h.size, fun k hk => (h'.same k hk).trans (h.same k hk), h'.heap⟩
theorem Chg.drew {w w1 : World} {g : Nat} {L : List Value} {e : TypeId} {fr : Nat × Nat} (h : Chg w.drew w1 g L e fr) : Chg w w1 g L e fr := ⟨h.os, h.tape, h.output, h.size, h.same, h.heap⟩
theorem chg_setRow {w : World} {g : Nat} {cur : Array Value} {e : TypeId} {fr : Nat × Nat} (hg : w.heap[g]? = some (.cells cur e fr)) (L : List Value) : Chg w (w.setRow g L.toArray) g L e fr :=
  ⟨rfl, rfl, rfl, by simp [World.setRow], fun k hk => setRow_other w g k _ hk, setRow_heap w g cur _ e fr hg⟩

/-- The cells that a copy lays over others. -/
def over (L : List Value) (o : Nat) (cs : List Value) : List Value := L.take o ++ cs ++ L.drop (o + cs.length)
theorem over_length {L : List Value} {o : Nat} {cs : List Value} (h : o + cs.length ≤ L.length) : (over L o cs).length = L.length := by
  simp [over]; omega

/-- copy: all is read ahead of what is written. -/
theorem run_copy_over {w : World} {dT sT elem : TypeId} {ie : TypeInfo} (hu : P.underlying dT = some (.slice elem)) (hi : P.info? elem = some ie) {g o dLen : Nat} {a : Addr} {sLen m : Nat} {cs : List Value} (hm : m = min sLen dLen)
    (hn : cs.length = m * ie.size) (hsrc : ∀ j v, cs[j]? = some v → w.cell? (a.add j) = some v) {L : List Value} {e : TypeId} {fr : Nat × Nat} (hg : w.heap[g]? = some (.cells L.toArray e fr)) (ht : fr.1 = fr.2)
    (hfit : o + cs.length ≤ L.length) (h1 : ∀ v ∈ cs, v.oneCell' = true) :
    ∃ w', (∀ ty dCap sCap, (Builtin.copy_ #[dT, sT] ty #[.slice (some ⟨g, o, none⟩) dLen dCap, .slice (some a) sLen sCap]).run P w = .ok (goInt m) w') ∧ Chg w w' g (over L o cs) e fr := by
  subst hm
  have hst := run_storeCells_thawed (P := P) g o e fr cs 0 L.toArray w hg ht (by simpa using hfit) h1
  simp only [Nat.add_zero, List.toList_toArray] at hst
  refine ⟨_, fun ty dCap sCap => ?_, chg_setRow hg (over L o cs)⟩
  have hf := run_firstCells_some (P := P) w ie.size (Nat.min sLen dLen) a sLen sCap cs hn hsrc
  have e1 : Nat.min sLen dLen = min sLen dLen := rfl
  rw [e1] at hf
  simp [Builtin.copy_, run_underlying hu, Builtin.lenOf, sizeOf, typeInfo, hi, e1, hf, hst, over]
theorem run_copy_none {w : World} {dT sT ty elem : TypeId} {ie : TypeInfo} (hu : P.underlying dT = some (.slice elem)) (hi : P.info? elem = some ie) {A B : Option Addr} {dLen dCap sLen sCap : Nat} (hn : Nat.min sLen dLen = 0) :
    (Builtin.copy_ #[dT, sT] ty #[.slice A dLen dCap, .slice B sLen sCap]).run P w = .ok (goInt 0) w := by
  have hf : (Builtin.firstCells ie.size 0 (.slice B sLen sCap)).run P w = .ok #[] w := by
    cases B <;> simp [Builtin.firstCells, Go.loadCells, Go.loadCellsFrom]
  cases A <;> simp [Builtin.copy_, run_underlying hu, Builtin.lenOf, sizeOf, typeInfo, hi, hn, hf, storeCells]

/-- append of 'make': a new block. -/
theorem run_append_zeros_grow {w : World} {t tn ty e : TypeId} {i : TypeInfo} {z : Value} {kn : IntKind} (ht : P.underlying t = some (.slice e)) (htn : P.underlying tn = some (.int kn)) (hi : P.info? e = some i) (hz : i.zero = some z)
    (hzs : z.cells.size = i.size) {b : Addr} {n c k : Nat} {k0 : IntKind} {olds : List Value} (hlo : olds.length = n * i.size) (holds : ∀ j v, olds[j]? = some v → w.cell? (b.add j) = some v) (hk : 0 < k) (hs : 0 < i.size) (hgrow : c < n + k) (h63 : n + k ≤ 9223372036854775807) (hfit : (n + k) * i.bytes ≤ 140737488355328) :
    ∃ (cap : Nat) (w' : World) (L : List Value), (Builtin.append_ #[t, tn] ty #[.slice (some b) n c, .int k0 k]).run P w = .ok (.slice (some ⟨w.heap.size, 0, none⟩) (n + k) cap) w' ∧ n + k ≤ cap ∧ cap ≤ 9223372036854775807 ∧ w'.os = w.os ∧ w'.tape = w.tape ∧ w'.output = w.output ∧
      w'.heap.size = w.heap.size + 1 ∧ (∀ q, q < w.heap.size → w'.heap[q]? = w.heap[q]?) ∧ w'.heap[w.heap.size]? = some (.cells L.toArray e (0, 0)) ∧ L.length = cap * i.size ∧ L.take (n * i.size) = olds := by
  have hn : ¬ (n + k ≤ c) := by omega
  have hw : IntKind.i64.wrap (k : Int) = k := by rw [IntKind.wrap_i64]; omega
  have h63' : ¬ (9223372036854775807 < ((n : Int) + (k : Int))) := by omega
  have hb0 : k * i.bytes ≤ (n + k) * i.bytes := Nat.mul_le_mul_right _ (by omega)
  have h48i : ¬ (281474976710656 < (k : Int) * (i.bytes : Int)) := by
    rw [← Int.natCast_mul]
    omega
  have hf := growslice_fits (old := c) (need := n + k) (bytes := i.bytes) (by omega) hfit
  have h48' : ¬ (281474976710656 < Builtin.nextslicecap (n + k) c * i.bytes) := by omega
  have hneg : ¬ ((k : Int) < 0) := by omega
  have hk0 : k ≠ 0 := by omega
  have hns : ¬ (k * i.size = 0) := Nat.mul_ne_zero hk0 (by omega)
  have hfo := run_firstCells_some (P := P) w.drew i.size n b n c olds hlo (by simpa using holds)
  have hge := grownCap_ge w (n + k) c e
  let L : List Value := olds ++ (Builtin.zeroCells z.cells k).toList ++ (Builtin.zeroCells z.cells (grownCap w (n + k) c e - (n + k))).toList
  refine ⟨grownCap w (n + k) c e, w.drew.alloc (.cells L.toArray e), L, ?_, hge, cap63 w _ _ _ h63, rfl, rfl, rfl, ?_, fun q hq => ?_, heap_new w.drew _, ?_, ?_⟩
  · simp [Builtin.append_, run_underlying ht, run_underlying htn, sizeOf, typeInfo, zeroValue, hi, hz, asInt, asIntOf, hw, hn, hneg, hns, h63', h48', h48i, hk0, Question.forced, hfo, newRow, grownCap, L]
    congr 2
    apply Array.ext'
    simp [List.append_assoc]
  · show (w.heap.push _).size = _
    simp
  · show (w.heap.push _)[q]? = _
    rw [Array.getElem?_push_lt hq, Array.getElem?_eq_getElem hq]
  · simp only [L, List.length_append, Array.length_toList, size_zeroCells, hzs, hlo, ← Nat.add_mul]
    congr 1
    omega
  · simp only [L, List.append_assoc]
    rw [← hlo]
    exact List.take_left

/-- append of a row, in place. -/
theorem run_append_over {w : World} {t ty e : TypeId} {i : TypeInfo} (ht : P.underlying t = some (.slice e)) (hi : P.info? e = some i) {g n c : Nat} {a : Addr} {m mc : Nat} {cs : List Value} (hn : cs.length = m * i.size)
    (hsrc : ∀ j v, cs[j]? = some v → w.cell? (a.add j) = some v) {L : List Value} {et : TypeId} {fr : Nat × Nat} (hg : w.heap[g]? = some (.cells L.toArray et fr)) (hfr : fr.1 = fr.2) (hfit : n * i.size + cs.length ≤ L.length) (hroom : n + m ≤ c) (h1 : ∀ v ∈ cs, v.oneCell' = true) :
    ∃ w', (Builtin.append_ #[t, t] ty #[.slice (some ⟨g, 0, none⟩) n c, .slice (some a) m mc]).run P w = .ok (.slice (some ⟨g, 0, none⟩) (n + m) c) w' ∧ Chg w w' g (over L (n * i.size) cs) et fr := by
  have hf := run_firstCells_some (P := P) w i.size m a m mc cs hn hsrc
  have hst := run_storeCells_thawed (P := P) g (n * i.size) et fr cs 0 L.toArray w hg hfr (by simpa using hfit) h1
  simp only [Nat.add_zero, List.toList_toArray] at hst
  refine ⟨_, ?_, chg_setRow hg (over L (n * i.size) cs)⟩
  simp [Builtin.append_, run_underlying ht, sizeOf, typeInfo, hi, Builtin.lenOf, hroom, hf, Addr.add_lit, hst, over]
/-- append of a row: a new block. -/
theorem run_append_new {w : World} {t ty e : TypeId} {i : TypeInfo} {z : Value} (ht : P.underlying t = some (.slice e)) (hi : P.info? e = some i) (hz : i.zero = some z) (hzs : z.cells.size = i.size) {b a : Addr} {n c m mc : Nat} {olds news : List Value}
    (hlo : olds.length = n * i.size) (holds : ∀ j v, olds[j]? = some v → w.cell? (b.add j) = some v) (hl : news.length = m * i.size) (hnews : ∀ j v, news[j]? = some v → w.cell? (a.add j) = some v) (hgrow : c < n + m) (h63 : n + m ≤ 9223372036854775807) (hfit : (n + m) * i.bytes ≤ 140737488355328) :
    ∃ (cap : Nat) (w' : World) (L : List Value), (Builtin.append_ #[t, t] ty #[.slice (some b) n c, .slice (some a) m mc]).run P w = .ok (.slice (some ⟨w.heap.size, 0, none⟩) (n + m) cap) w' ∧ n + m ≤ cap ∧ cap ≤ 9223372036854775807 ∧ w'.os = w.os ∧ w'.tape = w.tape ∧ w'.output = w.output ∧
      w'.heap.size = w.heap.size + 1 ∧ (∀ q, q < w.heap.size → w'.heap[q]? = w.heap[q]?) ∧ w'.heap[w.heap.size]? = some (.cells L.toArray e (0, 0)) ∧ L.length = cap * i.size ∧ L.take ((n + m) * i.size) = olds ++ news := by
  have hge := grownCap_ge w (n + m) c e
  have hr := run_append_grow (P := P) w t ty e i z ht hi hz b n c olds hlo holds a m mc news hl hnews hgrow (by omega) (growslice_fits (by omega) hfit)
  let L : List Value := olds ++ news ++ (Builtin.zeroCells z.cells (grownCap w (n + m) c e - (n + m))).toList
  have e1 : olds.toArray ++ news.toArray ++ Builtin.zeroCells z.cells (grownCap w (n + m) c e - (n + m)) = L.toArray := by
    apply Array.ext'
    simp [L]
  rw [e1] at hr
  refine ⟨_, _, L, hr, hge, cap63 w _ _ _ h63, rfl, rfl, rfl, ?_, fun q hq => ?_, heap_new w.drew _, ?_, ?_⟩
  · show (w.heap.push _).size = _
    simp
  · show (w.heap.push _)[q]? = _
    rw [Array.getElem?_push_lt hq, Array.getElem?_eq_getElem hq]
  · simp only [L, List.length_append, Array.length_toList, size_zeroCells, hzs, hlo, hl, ← Nat.add_mul]
    congr 1
    omega
  · have : (n + m) * i.size = (olds ++ news).length := by rw [List.length_append, hlo, hl, Nat.add_mul]
    simp only [L]
    rw [this]
    exact List.take_left
/-- clear. -/
theorem run_clear_over {w : World} {t e : TypeId} {i : TypeInfo} {z : Value} (ht : P.underlying t = some (.slice e)) (hi : P.info? e = some i) (hz : i.zero = some z) (hzs : z.cells.size = i.size) (hz1 : ∀ v ∈ z.cells.toList, v.oneCell' = true) {g o n : Nat} {L : List Value} {et : TypeId} {fr : Nat × Nat}
    (hg : w.heap[g]? = some (.cells L.toArray et fr)) (hfr : fr.1 = fr.2) (hfit : o + n * i.size ≤ L.length) :
    ∃ (w' : World) (M : List Value), (∀ ty c, (Builtin.clear_ #[t] ty #[.slice (some ⟨g, o, none⟩) n c]).run P w = .ok (.tuple #[]) w') ∧ Chg w w' g M et fr ∧ M.length = L.length ∧ M.take o = L.take o := by
  cases n with
  | zero =>
    refine ⟨w, L, fun ty c => by simp [Builtin.clear_, run_underlying ht], ⟨rfl, rfl, rfl, rfl, fun _ _ => rfl, hg⟩, rfl, rfl⟩
  | succ n =>
    have hzl : (Builtin.zeroCells z.cells (n + 1)).toList.length = (n + 1) * i.size := by rw [Array.length_toList, size_zeroCells, hzs]
    have hst := run_storeCells_thawed (P := P) g o et fr (Builtin.zeroCells z.cells (n + 1)).toList 0 L.toArray w hg hfr (by simp [hzl]; omega) (fun v hv => by
      have : v ∈ z.cells.toList := by
        simp only [Builtin.zeroCells, Array.toList_map, List.mem_map] at hv
        obtain ⟨q, hq, rfl⟩ := hv
        have hq' : q < (n + 1) * z.cells.size := by simpa using hq
        have hpos : 0 < z.cells.size := by
          rcases Nat.eq_zero_or_pos z.cells.size with h0 | h0
          · rw [h0] at hq'; omega
          · exact h0
        have hlt : q % z.cells.size < z.cells.size := Nat.mod_lt _ hpos
        rw [getElem!_pos z.cells _ hlt]
        simp
      exact hz1 v this)
    simp only [Nat.add_zero, List.toList_toArray] at hst
    refine ⟨_, over L o (Builtin.zeroCells z.cells (n + 1)).toList, fun ty c => ?_, chg_setRow hg _, over_length (by rw [hzl]; exact hfit), ?_⟩
    · simp [Builtin.clear_, run_underlying ht, zeroValue, typeInfo, hi, hz, hst, over]
    · unfold over
      rw [List.append_assoc, List.take_left' (by rw [List.length_take]; omega)]
end
end Go.Ev
namespace Go.Ev
theorem cell_take {w : World} {g : Nat} {L : List Value} {e : TypeId} {fr : Nat × Nat} (hg : w.heap[g]? = some (.cells L.toArray e fr)) (o k : Nat) : ∀ j v, ((L.drop o).take k)[j]? = some v → w.cell? ((⟨g, o, none⟩ : Addr).add j) = some v := by
  intro j v hj
  rw [addr_add, cell_at hg]
  rw [List.getElem?_take] at hj
  split at hj
  · simpa using hj
  · cases hj
/-- Two slices of plain memory, in two blocks. -/
theorem run_overlaps_no {P : Program} (w : World) (tS tR e : TypeId) (ht : P.underlying tS = some (.slice e)) {ie : TypeInfo} (hi : P.info? e = some ie) {a b o p la ca lb cb : Nat} (hne : a ≠ b)
    {A B : Array Value} {ta tb : TypeId} {fa fb : Nat × Nat} (ha : w.heap[a]? = some (.cells A ta fa)) (hfa : fa.1 = fa.2) (hb : w.heap[b]? = some (.cells B tb fb)) (hB : B.size ≠ 0) :
    (Extern.SlicesOverlaps.overlaps #[tS, tS] #[tR] #[.slice (some ⟨a, o, none⟩) la ca, .slice (some ⟨b, p, none⟩) lb cb]).run P w = .ok (.bool false) w := by
  have sa : w.shape? a = some (ta, A.size) := by simp [World.shape?, ha]
  have sb : w.shape? b = some (tb, B.size) := by simp [World.shape?, hb]
  have za : ∀ q, w.frozen? ⟨a, q, none⟩ = false := fun q => by
    simp only [World.frozen?, ha]
    simp
    omega
  have hsz : ∀ w, (Go.sizeOf e).run P w = .ok ie.size w := fun w => by simp [Go.sizeOf, typeInfo, hi]
  exact Lib.run_overlaps_apart w tS tR e ht ie.size hsz ⟨a, o, none⟩ ⟨b, p, none⟩ la ca lb cb hne ta tb A.size B.size sa sb hB (za _) (za _)
end Go.Ev
namespace Go.Ev
/-- append of a row onto an empty one: a new block. -/
theorem run_append_new0 {P : Program} {w : World} {t ty e : TypeId} {i : TypeInfo} {z : Value} (ht : P.underlying t = some (.slice e)) (hi : P.info? e = some i) (hz : i.zero = some z) (hzs : z.cells.size = i.size) {A : Option Addr} {a : Addr} {m mc : Nat} {news : List Value}
    (hl : news.length = m * i.size) (hnews : ∀ j v, news[j]? = some v → w.cell? (a.add j) = some v) (hm : 0 < m) (h63 : m ≤ 9223372036854775807) (hfit : m * i.bytes ≤ 140737488355328) :
    ∃ (cap : Nat) (w' : World) (L : List Value), (Builtin.append_ #[t, t] ty #[.slice A 0 0, .slice (some a) m mc]).run P w = .ok (.slice (some ⟨w.heap.size, 0, none⟩) m cap) w' ∧ m ≤ cap ∧ cap ≤ 9223372036854775807 ∧ w'.os = w.os ∧ w'.tape = w.tape ∧ w'.output = w.output ∧
      w'.heap.size = w.heap.size + 1 ∧ (∀ q, q < w.heap.size → w'.heap[q]? = w.heap[q]?) ∧ w'.heap[w.heap.size]? = some (.cells L.toArray e (0, 0)) ∧ L.length = cap * i.size ∧ L.take (m * i.size) = news := by
  cases A with
  | some b =>
    obtain ⟨cap, w', L, h⟩ := run_append_new (P := P) (w := w) (t := t) (ty := ty) (c := 0) (n := 0) (mc := mc) (b := b) (a := a) ht hi hz hzs (olds := []) (by simp) (by simp) hl hnews (by omega) (by omega) (by simpa using hfit)
    simp only [Nat.zero_add, List.nil_append] at h
    exact ⟨cap, w', L, h⟩
  | none =>
    have hge := grownCap_ge w m 0 e
    have hr := run_append_nil (P := P) w t ty e i z ht hi hz a m mc news hl hnews (by omega) (by omega) (by omega)
    let L : List Value := news ++ (Builtin.zeroCells z.cells (grownCap w m 0 e - m)).toList
    have e1 : news.toArray ++ Builtin.zeroCells z.cells (grownCap w m 0 e - m) = L.toArray := by
      apply Array.ext'
      simp [L]
    rw [e1] at hr
    refine ⟨_, _, L, hr, hge, cap63 w _ _ _ h63, rfl, rfl, rfl, ?_, fun q hq => ?_, heap_new w.drew _, ?_, ?_⟩
    · show (w.heap.push _).size = _
      simp
    · show (w.heap.push _)[q]? = _
      rw [Array.getElem?_push_lt hq, Array.getElem?_eq_getElem hq]
    · simp only [L, List.length_append, Array.length_toList, size_zeroCells, hzs, hl, ← Nat.add_mul]
      congr 1
      omega
    · simp only [L]
      rw [← hl]
      exact List.take_left
/-- What an argument says that is a row of the call's own. -/
theorem start_own {w : World} {Oc : Nat → Prop} {os : List OV} {us : List Value} {ab : Blk} (h : SRel w Oc (startSlots 0 os) (fun t => us.getD t Go.undef) ab) {i : Nat} {sh : Option Nat} {xs sp : List PV} (hi : os[i]? = some (.flat (.own sh xs sp))) :
    (xs = [] ∧ ∃ A, us.getD i Go.undef = .slice A 0 0) ∨ ∃ (b c : Nat) (L : List Value) (e : TypeId) (fr : Nat × Nat), us.getD i Go.undef = .slice (some ⟨b, 0, none⟩) xs.length c ∧ ab i none = some b ∧ w.heap[b]? = some (.cells L.toArray e fr) ∧ fr.1 = fr.2 ∧
      c * shN sh ≤ L.length ∧ xs.length ≤ c ∧ c ≤ 9223372036854775807 ∧ RowIn w (ab.off Oc) sh xs (L.take (xs.length * shN sh)).toArray := by
  have hr := h.rep i
  rw [get_start, if_pos (Nat.zero_le _), Nat.sub_zero, hi] at hr
  obtain ⟨hf, _⟩ := ORep.flat_inv hr
  generalize us.getD i Go.undef = u at hf
  generalize ab i none = m at hf
  cases hf with
  | ownE _ A => exact .inl ⟨rfl, A, rfl⟩
  | own _ _ _ b c cur e fr vs how =>
    refine .inr ⟨b, c, cur.toList, e, fr, rfl, rfl, by simpa using how.heap, how.thaw, by simpa using how.size, how.len, how.capL, ⟨how.fits, how.cell, fun i x j y hi hj => ⟨vs i j, ?_, how.rep i x j y hi hj⟩⟩⟩
    have hj' : j < shN sh := by rw [← cells_length (how.fits i x hi)]; exact (List.getElem?_eq_some_iff.1 hj).1
    have hi' : i < xs.length := (List.getElem?_eq_some_iff.1 hi).1
    have hlt : i * shN sh + j < xs.length * shN sh := by
      have : (i + 1) * shN sh ≤ xs.length * shN sh := Nat.mul_le_mul_right _ hi'
      rw [Nat.add_mul, Nat.one_mul] at this
      omega
    simp only [List.getElem?_toArray]
    rw [List.getElem?_take, if_pos hlt]
    simpa using how.at_ i x j y hi hj
/-- The cells of a row that is said fill one cell each. -/
theorem RowIn.one {w : World} {O : Nat → Prop} {sh : Option Nat} {xs : List PV} {L : List Value} (h : RowIn w O sh xs L.toArray) (hl : L.length = xs.length * shN sh) : ∀ v ∈ L, v.oneCell' = true := by
  intro v hv
  obtain ⟨q, hq⟩ := List.getElem?_of_mem hv
  have hlt : q < xs.length * shN sh := by rw [← hl]; exact (List.getElem?_eq_some_iff.1 hq).1
  have hpos : 0 < shN sh := by
    rcases Nat.eq_zero_or_pos (shN sh) with h0 | h0
    · rw [h0] at hlt; omega
    · exact h0
  have hi' : q / shN sh < xs.length := by rw [Nat.div_lt_iff_lt_mul hpos]; exact hlt
  have hj' : q % shN sh < shN sh := Nat.mod_lt _ hpos
  have hx : xs[q / shN sh]? = some xs[q / shN sh] := List.getElem?_eq_getElem hi'
  have hy : (xs[q / shN sh]).cells[q % shN sh]? = some ((xs[q / shN sh]).cells[q % shN sh]'(by rw [cells_length (h.fits _ _ hx)]; exact hj')) := List.getElem?_eq_getElem _
  obtain ⟨z, hz, hr⟩ := h.rep _ _ _ _ hx hy
  have e : q / shN sh * shN sh + q % shN sh = q := by rw [Nat.mul_comm]; exact Nat.div_add_mod q (shN sh)
  rw [e] at hz
  simp only [List.getElem?_toArray] at hz
  rw [hq] at hz
  cases hz
  exact (hr.one (h.cell _ _ _ _ hx hy)).2
theorem RowOut.mono {w w' : World} {has has' : Nat → Prop} {sz N : Nat} {L : List Value} {v : Value} (h : RowOut w w' has sz N L v) (hh : ∀ k, has k → has' k) : RowOut w w' has' sz N L v := by
  refine ⟨h.os, h.tape, h.output, h.size, fun k hk hno => h.same k hk fun q => hno (hh k q), ?_⟩
  rcases h.row with h0 | ⟨g, c, cur, e, fr, h1, h2, h3⟩
  · exact .inl h0
  · exact .inr ⟨g, c, cur, e, fr, h1, h2.imp (hh g) id, h3⟩
end Go.Ev
namespace Go.Ev
/-- An append whose run is known, as a step of a region that draws its order. -/
theorem step_append_known {P : Program} {ops : Array Oper} {o : Oper} {a : Act} {w : World} {K : Act → World → Prop} {Q : Exit → Act → World → Prop} {E : Prop} (hg : o.guard = none) (s x : Operand) (t tn : TypeId)
    (hop : o.op = Op.call { callee := Callee.builtin Builtin.append, args := #[s, x], argTypes := #[t, tn] }) (v u : Value) (hs : a.eval s = v) (hx : a.eval x = u) {v' : Value} {w' : World} (hr : (Builtin.append_ #[t, tn] o.type #[v, u]).run P w = .ok v' w') (hK : K (a.put o.dst v') w') :
    if Region.wanted o (yielded ops a.tmps) = true then Oper.wp P o a w K Q else E := by
  have hw : Region.wanted o (yielded ops a.tmps) = true := by simp [Region.wanted, hg]
  rw [if_pos hw]
  exact Lib.wp_append_run w s x t tn hop v u hs hx v' w' hr hK
theorem wpList_clear_known {P : Program} (w : World) {ops : Array Oper} {rest : List Oper} {o : Oper} {a : Act} {Q : Exit → Act → World → Prop} (hgd : o.guard = none) (x : Operand) (t : TypeId)
    (ho : o.op = .call { callee := .builtin .clear, args := #[x], argTypes := #[t] }) (vx : Value) (hx : a.eval x = vx) (v' : Value) (w' : World) (hr : (Builtin.clear_ #[t] o.type #[vx]).run P w = .ok v' w') (h : wpList P ops Q rest (a.put o.dst v') w') : wpList P ops Q (o :: rest) a w :=
  wpList_plain hgd fun K hK => by
    unfold Oper.wp execOp
    simp only [ho, resolve, invoke, builtin, Sem.run_bind, Sem.run_pure, Result.andThen_ok, List.map_toArray, List.map_cons, List.map_nil, hx, hr]
    exact hK _ _ h
end Go.Ev
namespace Go.Ev
/-- append of 'make' onto an empty row: a new block. -/
theorem run_append_zeros0 {P : Program} {w : World} {t tn ty e : TypeId} {i : TypeInfo} {z : Value} {kn : IntKind} (ht : P.underlying t = some (.slice e)) (htn : P.underlying tn = some (.int kn)) (hi : P.info? e = some i) (hz : i.zero = some z)
    (hzs : z.cells.size = i.size) {A : Option Addr} {k : Nat} {k0 : IntKind} (hk : 0 < k) (hs : 0 < i.size) (h63 : k ≤ 9223372036854775807) (hfit : k * i.bytes ≤ 140737488355328) :
    ∃ (cap : Nat) (w' : World) (L : List Value), (Builtin.append_ #[t, tn] ty #[.slice A 0 0, .int k0 k]).run P w = .ok (.slice (some ⟨w.heap.size, 0, none⟩) k cap) w' ∧ k ≤ cap ∧ cap ≤ 9223372036854775807 ∧ w'.os = w.os ∧ w'.tape = w.tape ∧ w'.output = w.output ∧
      w'.heap.size = w.heap.size + 1 ∧ (∀ q, q < w.heap.size → w'.heap[q]? = w.heap[q]?) ∧ w'.heap[w.heap.size]? = some (.cells L.toArray e (0, 0)) ∧ L.length = cap * i.size := by
  cases A with
  | some b =>
    obtain ⟨cap, w', L, h1, h2, h3, h4, h5, h6, h7, h8, h9, h10, _⟩ := run_append_zeros_grow (P := P) (w := w) (t := t) (tn := tn) (ty := ty) (k0 := k0) (c := 0) (n := 0) (k := k) (b := b) ht htn hi hz hzs (olds := []) (by simp) (by simp) hk hs (by omega) (by omega) (by simpa using hfit)
    simp only [Nat.zero_add] at h1 h2
    exact ⟨cap, w', L, h1, h2, h3, h4, h5, h6, h7, h8, h9, h10⟩
  | none =>
    have hge := grownCap_ge w k 0 e
    have hr := Lib.run_append_nil_zeros (P := P) w t tn ty e i z k0 kn ht htn hi hz k hk hs (by omega) (by omega)
    let L : List Value := (Builtin.zeroCells z.cells k).toList ++ (Builtin.zeroCells z.cells (grownCap w k 0 e - k)).toList
    have e1 : Builtin.zeroCells z.cells k ++ Builtin.zeroCells z.cells (grownCap w k 0 e - k) = L.toArray := by
      apply Array.ext'
      simp [L]
    rw [e1] at hr
    refine ⟨_, _, L, hr, hge, cap63 w _ _ _ h63, rfl, rfl, rfl, ?_, fun q hq => ?_, heap_new w.drew _, ?_⟩
    · show (w.heap.push _).size = _
      simp
    · show (w.heap.push _)[q]? = _
      rw [Array.getElem?_push_lt hq, Array.getElem?_eq_getElem hq]
    · simp only [L, List.length_append, Array.length_toList, size_zeroCells, hzs, ← Nat.add_mul]
      congr 1
      omega
end Go.Ev

namespace Go.Ev

def primInsert (s : Option Nat) : List OV → Option (List OV × List OV)
  | [.flat (.own sh xs _), .flat (.val (.int .i64 i)), .flat (.own sh' ys _)] =>
    match shEq sh s && shEq sh' s && Nat.beq ys.length 1 && Nat.ble xs.length 1000000 && decide (0 ≤ i) && decide (i ≤ xs.length) with
    | true => some ([.flat (.own s (xs.take i.toNat ++ ys ++ xs.drop i.toNat) [])], [])
    | false => none
  | _ => none
def primReplace (s : Option Nat) : List OV → Option (List OV × List OV)
  | [.flat (.own sh xs _), .flat (.val (.int .i64 i)), .flat (.val (.int .i64 j)), .flat (.own sh' ys _)] =>
    match shEq sh s && shEq sh' s && Nat.blt 0 ys.length && Nat.ble ys.length 1000 && Nat.ble xs.length 1000000 && decide (0 ≤ i) && decide (i < j) && decide (j ≤ xs.length) with
    | true => some ([.flat (.own s (xs.take i.toNat ++ ys ++ xs.drop j.toNat) [])], [])
    | false => none
  | _ => none
def primDelete (s : Option Nat) : List OV → Option (List OV × List OV)
  | [.flat (.own sh xs _), .flat (.val (.int .i64 i)), .flat (.val (.int .i64 j))] =>
    match shEq sh s && Nat.ble xs.length 1000000 && decide (0 ≤ i) && decide (i < j) && decide (j ≤ xs.length) with
    | true => some ([.flat (.own s (xs.take i.toNat ++ xs.drop j.toNat) [])], [])
    | false => none
  | _ => none
def primSlClone (s : Option Nat) : List OV → Option (List OV × List OV)
  | [.flat (.val (.sl sh xs))] => match shEq sh s && Nat.ble xs.length 1000000 with
    | true => some ([.flat (.own s xs [])], [])
    | false => none
  | _ => none
/-- slices.Grow of what is empty. -/
def primGrow (s : Option Nat) : List OV → Option (List OV × List OV)
  | [.flat (.own sh [] _), .flat (.val (.int .i64 n))] => match shEq sh s && decide (0 ≤ n) && decide (n ≤ 10000000) with
    | true => some ([.flat (.own s [] [])], [])
    | false => none
  | _ => none
end Go.Ev

