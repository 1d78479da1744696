/- An evaluator of the model's code over pure data, and why it is right: part 6. -/
import Derived.Test.YtgcjhapomljekaaDoorEve
import Derived.Orders
import Derived.Scope
import Derived.ChangeArms
import Derived.ChangeBook
import Derived.ChangeStays
import Derived.Lib.Strings
import Derived.Lib.Bytealg
import Derived.Below
import Derived.Laws.AppendOwn

set_option linter.unusedVariables false

set_option linter.unusedSimpArgs false

set_option linter.unusedSectionVars false

namespace Go.Ev

/-! ### an operation hangs on what it reads -/
section
variable {C : Ctx} {rec : Rec} {ops : Array Oper} {st st' : Slots}

theorem reads_cons (s : Nat) (r : List Operand) : readsOf st (.tmp s :: r) = s :: ((st.get s).rootL ++ readsOf st r) := rfl
theorem reads_mem : ∀ {l : List Operand} {s : Nat}, .tmp s ∈ l → s ∈ readsOf st l ∧ ∀ r, (st.get s).root = some r → r ∈ readsOf st l
  | [], _, h => by cases h
  | x :: l, s, h => by
    rcases List.mem_cons.1 h with rfl | h
    · refine ⟨by simp [readsOf], fun r hr => ?_⟩
      simp [readsOf, SV.rootL, hr]
    · obtain ⟨h1, h2⟩ := reads_mem h
      cases x with
      | tmp t => exact ⟨by simp [readsOf, h1], fun r hr => by simp [readsOf, h2 r hr]⟩
      | _ => exact ⟨by simpa [readsOf] using h1, fun r hr => by simpa [readsOf] using h2 r hr⟩

theorem rooted_congr {v : SV} {r : Nat} (h : st'.get r = st.get r) : rooted st' v r = rooted st v r := by
  unfold rooted; rw [h]
theorem fetch_congr {P : Program} {t : TypeId} {x : Operand} (h : ∀ s, x = .tmp s → st'.get s = st.get s ∧ ∀ r, (st.get s).root = some r → st'.get r = st.get r) : fetch P st' t x = fetch P st t x := by
  cases x with
  | tmp s =>
    obtain ⟨h1, h2⟩ := h s rfl
    simp only [fetch, h1]
    cases hv : st.get s with
    | ref r c => exact rooted_congr (h2 r (by rw [hv]; rfl))
    | adr r c => exact rooted_congr (h2 r (by rw [hv]; rfl))
    | adrx r c => exact rooted_congr (h2 r (by rw [hv]; rfl))
    | adre r c i off => exact rooted_congr (h2 r (by rw [hv]; rfl))
    | view r c l u => exact rooted_congr (h2 r (by rw [hv]; rfl))
    | rng r c l => exact rooted_congr (h2 r (by rw [hv]; rfl))
    | home o =>
      cases o with
      | flat f => cases f <;> rfl
      | cont k cs => rfl
    | dead => rfl
    | fadr sh v => rfl
  | _ => rfl

/-- Two lists of slots say the same to these operands. -/
def Agree (st st' : Slots) (l : List Operand) : Prop := ∀ s, .tmp s ∈ l → st'.get s = st.get s ∧ ∀ r, (st.get s).root = some r → st'.get r = st.get r
theorem Agree.of {l : List Operand} (h : ∀ s ∈ readsOf st l, st'.get s = st.get s) : Agree st st' l := by
  intro s hs
  obtain ⟨h1, h2⟩ := reads_mem (st := st) hs
  exact ⟨h s h1, fun r hr => h r (h2 r hr)⟩
theorem Agree.fetch {P : Program} {t : TypeId} {x : Operand} {l : List Operand} (h : Agree st st' l) (hx : x ∈ l) : fetch P st' t x = fetch P st t x :=
  fetch_congr fun s hs => h s (hs ▸ hx)
theorem Agree.all {P : Program} {l : List Operand} (h : Agree st st' l) : ∀ (xs : List Operand) (ts : List TypeId), (∀ x ∈ xs, x ∈ l) → fetchAll P st' ts xs = fetchAll P st ts xs
  | [], _, _ => rfl
  | x :: xs, ts, hx => by
    simp only [fetchAll]
    rw [h.fetch (hx x (by simp)), h.all xs ts.tail fun y hy => hx y (by simp [hy])]
theorem Agree.parts {P : Program} {l : List Operand} (h : Agree st st' l) (ty : Nat → TypeId) : ∀ (xs : List (Nat × Operand)), (∀ x ∈ xs, x.2 ∈ l) → fetchParts P st' ty xs = fetchParts P st ty xs
  | [], _ => rfl
  | (i, x) :: xs, hx => by
    simp only [fetchParts]
    rw [h.fetch (hx (i, x) (by simp)), h.parts ty xs fun y hy => hx y (by simp [hy])]
theorem Agree.opt {P : Program} {l : List Operand} (h : Agree st st' l) (x : Option Operand) (hx : ∀ y, x = some y → y ∈ l) : optInt P st' x = optInt P st x := by
  cases x with
  | none => rfl
  | some y => simp only [optInt]; rw [h.fetch (hx y rfl)]

theorem compute_congr {P : Program} {o : Oper} (h : Agree st st' o.op.operands.toList) : compute P o st' = compute P o st := by
  obtain ⟨dst, op, type, pos, after, guard⟩ := o
  dsimp only at h
  have F : ∀ {t : TypeId} {x : Operand}, x ∈ op.operands.toList → fetch P st' t x = fetch P st t x := fun hx => h.fetch hx
  cases op <;> simp only [compute] <;> simp only [Op.operands] at F h
  case move => rw [F (by simp)]
  case assign => rw [F (by simp)]
  case pick => rw [F (by simp), F (by simp), F (by simp)]
  case box => rw [F (by simp)]
  case build t ps => rw [h.parts _ ps.toList fun x hx => by simp; exact ⟨x.1, Array.mem_toList_iff.1 hx⟩]
  case buildSlice t n ps => rw [h.parts _ ps.toList fun x hx => by simp; exact ⟨x.1, Array.mem_toList_iff.1 hx⟩]
  case load => rw [F (by simp)]
  case store => rw [F (by simp), F (by simp)]
  case nilCheck => rw [F (by simp)]
  case binOp => rw [F (by simp), F (by simp)]
  case unOp => rw [F (by simp)]
  case convert => rw [F (by simp)]
  case makeFunc f fs cs => rw [h.all fs.toList _ fun x hx => by simp; exact .inl (Array.mem_toList_iff.1 hx), h.all cs.toList _ fun x hx => by simp; exact .inr (Array.mem_toList_iff.1 hx)]
  case makeSlice => rw [F (by simp), F (by simp)]
  case slice t x lo hi mx => rw [F (by simp), h.opt lo (fun y hy => by subst hy; simp), h.opt hi (fun y hy => by subst hy; simp), h.opt mx (fun y hy => by subst hy; simp)]
  case fieldAddr => rw [F (by simp)]
  case field => rw [F (by simp)]
  case indexAddr => rw [F (by simp), F (by simp)]
  case index => rw [F (by simp), F (by simp)]
  case extract => rw [F (by simp)]
  case call c =>
    obtain ⟨callee, args, tys⟩ := c
    have G : ∀ {t : TypeId} {x : Operand}, x ∈ args.toList → fetch P st' t x = fetch P st t x := fun hx => F (by simp [Call.operands]; exact .inr (Array.mem_toList_iff.1 hx))
    dsimp only
    split
    · split
      · rename_i h1 h2; rw [G (by rw [h2]; simp)]
      · rfl
    · split
      · rename_i h1 h2
        rw [G (by rw [h2]; simp), G (by rw [h2]; simp)]
      · rfl
    · split
      · rename_i h1 h2
        rw [G (by rw [h2]; simp), G (by rw [h2]; simp)]
      · rfl
    · split
      · rename_i h2; rw [G (by rw [h2]; simp), G (by rw [h2]; simp)]
      · rfl
    · split
      · rename_i h2; rw [G (by rw [h2]; simp), G (by rw [h2]; simp)]
      · rfl
    · rfl

theorem callee_congr {c : Call} (h : Agree st st' c.operands.toList) : callee C c st' = callee C c st := by
  unfold callee
  split
  · rename_i f hc
    rw [h.fetch (x := f) (by simp [Call.operands, hc]), h.all c.args.toList _ fun x hx => by simp [Call.operands]; exact .inr (Array.mem_toList_iff.1 hx)]
  · rfl

theorem perf_congr {o : Oper} {r : List Edit × SV} (h : Agree st st' o.op.operands.toList) (hp : Perf C rec o st r) : Perf C rec o st' r := by
  cases hp with
  | calls fo args tys g as os rr ho h1 h2 h3 h4 h5 =>
    refine .calls fo args tys g as os rr ho ?_ h2 h3 h4 h5
    rw [callee_congr (c := ⟨.value fo, args, tys⟩) (by rw [ho] at h; exact h)]
    exact h1
  | plain hn hc => exact .plain hn (by rw [compute_congr h]; exact hc)

/-! ### what an operation does -/
def effect (o : Oper) (r : List Edit × SV) : List Edit := r.1 ++ (match o.dst with
  | some d => [⟨d, r.2, .all⟩]
  | none => [])
theorem done_effect (o : Oper) (st : Slots) (r : List Edit × SV) : done o st r = edits (effect o r) st := by
  unfold done effect
  rw [edits_append]
  cases o.dst <;> rfl
theorem skipped_effect (o : Oper) (st : Slots) : skipped o st = edits (effect o ([], .val .undef)) st := by
  unfold skipped effect
  cases o.dst <;> rfl

def Live (st : Slots) (f : Foot) : Prop := ∀ s ∈ f.rd, st.get s ≠ .dead ∧ ∀ r, (st.get s).root = some r → r ∈ f.rd
theorem liveAll_spec {rd : List Nat} : ∀ {l : List Nat}, liveAll st rd l = true → ∀ s ∈ l, st.get s ≠ .dead ∧ ∀ r, (st.get s).root = some r → r ∈ rd
  | [], _, s, hs => by cases hs
  | x :: l, h, s, hs => by
    simp only [liveAll, Bool.and_eq_true] at h
    rcases List.mem_cons.1 hs with rfl | hs
    · have h1 := h.1
      split at h1
      · cases h1
      · rename_i hne
        refine ⟨fun e => hne e, fun r hr => ?_⟩
        simp only [SV.rootL, hr, List.all_cons, List.all_nil, Bool.and_true] at h1
        exact (memN_iff _ _).1 h1
    · exact liveAll_spec h.2 s hs

structure Local (C : Ctx) (rec : Rec) (ops : Array Oper) (o : Oper) (st : Slots) (f : Foot) (es : List Edit) : Prop where
  wr : ∀ e ∈ es, e.s ∈ f.wr
  root : ∀ e ∈ es, ∀ r, e.v.root = some r → r ∈ f.rd
  again : ∀ st2, (∀ s ∈ f.rd, st2.get s = st.get s) → Step1 C rec ops o st2 (edits es st2) f
  live : Live st f

theorem guard_mem {o : Oper} {j g : Nat} {want : Bool} (h1 : o.guard = some (j, want)) (h2 : (ops[j]?).bind (·.dst) = some g) : g ∈ guardReads ops o := by
  simp [guardReads, h1, slotOf, h2]

theorem step_local {o : Oper} {f : Foot} (h : Step1 C rec ops o st st' f) (hl : f.live = true) : ∃ es, Same st' (edits es st) ∧ Local C rec ops o st f es := by
  cases h with
  | run st0 hs hg r hp =>
    have hsame : ∀ t, st0.get t = st.get t := hs
    have hlive : Live st (footOf ops o st0 r.1 r.2) := by
      intro s hs'
      have := liveAll_spec hl s hs'
      rw [hsame s] at this
      exact this
    refine ⟨effect o r, by rw [done_effect]; exact edits_congr hs _, ⟨fun e he => ?_, fun e he q hq => ?_, fun st2 h2 => ?_, hlive⟩⟩
    · unfold effect at he
      rcases List.mem_append.1 he with he | he
      · simp only [footOf, List.mem_append, List.mem_map]
        exact .inr ⟨e, he, rfl⟩
      · split at he
        · rename_i d hd
          simp at he
          subst he
          simp [footOf, hd]
        · cases he
    · unfold effect at he
      show q ∈ footRd ops o st0 r.1 r.2
      unfold footRd
      rcases List.mem_append.1 he with he | he
      · refine List.mem_append_right _ (List.mem_append_right _ (List.mem_append_left _ (List.mem_flatMap.2 ⟨e, he, ?_⟩)))
        simp [SV.rootL, hq]
      · split at he
        · simp at he
          subst he
          refine List.mem_append_right _ (List.mem_append_right _ (List.mem_append_right _ ?_))
          simp [SV.rootL, hq]
        · cases he
    · have hag : ∀ s ∈ footRd ops o st0 r.1 r.2, st2.get s = st0.get s := fun s hs' => by rw [h2 s hs', hsame s]
      have hA : Agree st0 st2 o.op.operands.toList := Agree.of fun s hs' => hag s (List.mem_append_right _ (List.mem_append_left _ hs'))
      have hreads : ∀ l : List Operand, (∀ s ∈ readsOf st0 l, st2.get s = st0.get s) → readsOf st2 l = readsOf st0 l := by
        intro l
        induction l with
        | nil => exact fun _ => rfl
        | cons x l ih =>
          intro hl'
          cases x with
          | tmp s =>
            rw [reads_cons, reads_cons, hl' s (by simp [readsOf]), ih fun t ht => hl' t (by simp [readsOf, ht])]
          | _ => exact ih hl'
      have hrd : footRd ops o st2 r.1 r.2 = footRd ops o st0 r.1 r.2 := by
        unfold footRd
        rw [hreads _ fun s hs' => hag s (List.mem_append_right _ (List.mem_append_left _ hs'))]
      have hlv : ∀ l : List Nat, (∀ s ∈ l, st2.get s = st0.get s) → ∀ rd, liveAll st2 rd l = liveAll st0 rd l := by
        intro l
        induction l with
        | nil => exact fun _ _ => rfl
        | cons x l ih =>
          intro hl' rd
          simp only [liveAll]
          rw [hl' x (by simp), ih (fun s hs' => hl' s (by simp [hs']))]
      have hfoot : footOf ops o st2 r.1 r.2 = footOf ops o st0 r.1 r.2 := by
        unfold footOf
        rw [hrd, hlv _ hag]
      rw [← hfoot, ← done_effect]
      refine .run st2 (Same.refl _) ?_ r (perf_congr hA hp)
      rcases hg with hg | ⟨j, want, g, g1, g2, g3⟩
      · exact .inl hg
      · refine .inr ⟨j, want, g, g1, g2, ?_⟩
        rw [hag g (List.mem_append_left _ (guard_mem g1 g2)), hsame g]
        exact g3
  | skip st0 hs j want g h1 h2 h3 =>
    refine ⟨effect o ([], .val .undef), by rw [skipped_effect]; exact edits_congr hs _, ⟨fun e he => ?_, fun e he q hq => ?_, fun st2 h4 => ?_, ?_⟩⟩
    · unfold effect at he
      simp only [List.nil_append] at he
      split at he
      · rename_i d hd
        simp at he
        subst he
        simp [skipFoot, hd]
      · cases he
    · unfold effect at he
      simp only [List.nil_append] at he
      split at he
      · simp at he
        subst he
        simp [SV.root] at hq
      · cases he
    · rw [← skipped_effect]
      refine .skip st2 (Same.refl _) j want g h1 h2 ?_
      rw [h4 g (guard_mem h1 h2)]
      exact h3
    · intro s hs'
      have : s = g := by
        have : s ∈ guardReads ops o := hs'
        simpa [guardReads, h1, slotOf, h2] using this
      subst this
      rcases h3 with h3 | h3 <;> rw [h3] <;> exact ⟨by simp, fun r hr => by simp [SV.root] at hr⟩
end

/-! ### two operations that touch other slots -/
theorem meets_spec {l m : List Nat} (h : meets l m = false) : ∀ x ∈ l, x ∉ m := by
  intro x hx hm
  have : meets l m = true := List.any_eq_true.2 ⟨x, hx, (memN_iff _ _).2 hm⟩
  rw [h] at this; cases this
theorem apart_foot {a b : Foot} (h : a.apart b = true) : (∀ x ∈ a.wr, x ∉ b.rd) ∧ (∀ x ∈ a.wr, x ∉ b.wr) ∧ (∀ x ∈ a.rd, x ∉ b.wr) := by
  unfold Foot.apart at h
  have h' : meets a.wr b.rd = false ∧ meets a.wr b.wr = false ∧ meets a.rd b.wr = false := by
    revert h
    cases meets a.wr b.rd <;> cases meets a.wr b.wr <;> cases meets a.rd b.wr <;> simp
  exact ⟨meets_spec h'.1, meets_spec h'.2.1, meets_spec h'.2.2⟩

theorem get_edits_or : ∀ {es : List Edit} {st : Slots} {t : Nat}, (∀ e ∈ es, e.s ≠ t) → (edits es st).get t = st.get t ∨ ((edits es st).get t = .dead ∧ ∃ e ∈ es, (st.get t).root = some e.s)
  | [], _, _, _ => .inl rfl
  | e :: es, st, t, h => by
    have h1 : (e.on st).get t = e.cut.one e.s (st.get t) := by rw [get_e, if_neg fun x => h e (by simp) x.symm]
    show (edits es (e.on st)).get t = _ ∨ (edits es (e.on st)).get t = _ ∧ _
    by_cases hr : (st.get t).root = some e.s
    · rcases e.cut.one_or e.s (st.get t) with h2 | h2
      · rcases get_edits_or (es := es) (st := e.on st) (fun f hf => h f (by simp [hf])) with h3 | ⟨h3, f, hf, h4⟩
        · left; rw [h3, h1, h2]
        · right; exact ⟨h3, e, by simp, hr⟩
      · right
        refine ⟨?_, e, by simp, hr⟩
        rw [get_edits_far (fun f hf => h f (by simp [hf])) (by rw [h1, h2]; rfl), h1, h2]
    · have h2 : (e.on st).get t = st.get t := by rw [h1, Cut.one_far _ _ hr]
      rcases get_edits_or (es := es) (st := e.on st) (fun f hf => h f (by simp [hf])) with h3 | ⟨h3, f, hf, h4⟩
      · left; rw [h3, h2]
      · right; exact ⟨h3, f, by simp [hf], by rw [← h2]; exact h4⟩

section
variable {C : Ctx} {rec : Rec} {ops : Array Oper}

structure Item where
  i : Nat
  o : Oper
  f : Foot
  es : List Edit

theorem Local.congr {o : Oper} {st st' : Slots} {f : Foot} {es : List Edit} (h : Local C rec ops o st f es) (hs : ∀ s ∈ f.rd, st'.get s = st.get s) : Local C rec ops o st' f es :=
  ⟨h.wr, h.root, fun st2 h2 => h.again st2 fun s hs' => (h2 s hs').trans (hs s hs'), fun s hs' => by rw [hs s hs']; exact h.live s hs'⟩

theorem swap {x y : Item} {st : Slots} (hx : Local C rec ops x.o st x.f x.es) (hy : Local C rec ops y.o (edits x.es st) y.f y.es) (ha : x.f.apart y.f = true) :
    Local C rec ops y.o st y.f y.es ∧ Local C rec ops x.o (edits y.es st) x.f x.es ∧ Same (edits y.es (edits x.es st)) (edits x.es (edits y.es st)) := by
  obtain ⟨a1, a2, a3⟩ := apart_foot ha
  have hA : ∀ s ∈ y.f.rd, (edits x.es st).get s = st.get s := by
    intro s hs
    rcases get_edits_or (es := x.es) (st := st) (t := s) (fun e he e0 => a1 _ (hx.wr e he) (e0 ▸ hs)) with h | ⟨h, _⟩
    · exact h
    · exact absurd h (hy.live s hs).1
  have hB : ∀ s ∈ x.f.rd, (edits y.es st).get s = st.get s := by
    intro s hs
    rcases get_edits_or (es := y.es) (st := st) (t := s) (fun e he e0 => a3 _ hs (e0 ▸ hy.wr e he)) with h | ⟨_, e, he, hr⟩
    · exact h
    · exact absurd (hy.wr e he) (a3 _ ((hx.live s hs).2 _ hr))
  refine ⟨hy.congr fun s hs => (hA s hs).symm, hx.congr hB, edits_comm y.es x.es st fun e he g hg => ⟨fun e0 => a2 _ (hx.wr g hg) (e0 ▸ hy.wr e he), fun hr => a1 _ (hx.wr g hg) (hy.root e he _ hr), fun hr => a3 _ (hx.root g hg _ hr) (hy.wr e he)⟩⟩

inductive LRun (C : Ctx) (rec : Rec) (ops : Array Oper) : List Item → Slots → Slots → Prop
  | nil (st st' : Slots) (h : Same st st') : LRun C rec ops [] st st'
  | cons (x : Item) (l : List Item) (st st' : Slots) (ho : ops[x.i]? = some x.o) (h : Local C rec ops x.o st x.f x.es) (hr : LRun C rec ops l (edits x.es st) st') : LRun C rec ops (x :: l) st st'

theorem LRun.congr : ∀ {l : List Item} {a b c : Slots}, LRun C rec ops l a c → Same a b → LRun C rec ops l b c
  | [], _, _, _, .nil _ _ h, hs => .nil _ _ (hs.symm.trans h)
  | _ :: _, _, _, _, .cons x l _ _ ho h hr, hs => .cons x l _ _ ho (h.congr fun s _ => (hs s).symm) (hr.congr (edits_congr hs _))

theorem LRun.front : ∀ {pre : List Item} {x : Item} {post : List Item} {st st' : Slots}, LRun C rec ops (pre ++ x :: post) st st' → (∀ y ∈ pre, y.f.apart x.f = true) → LRun C rec ops (x :: (pre ++ post)) st st'
  | [], _, _, _, _, h, _ => h
  | y :: pre, x, post, st, st', h, ha => by
    cases h with
    | cons _ _ _ _ ho hy hr =>
      have h1 := hr.front (fun z hz => ha z (by simp [hz]))
      cases h1 with
      | cons _ _ _ _ ho2 hx hr2 =>
        obtain ⟨g1, g2, g3⟩ := swap hy hx (ha y (by simp))
        exact .cons x _ _ _ ho2 g1 (.cons y _ _ _ ho g2 (hr2.congr g3))

theorem run_items : ∀ {l : List Oper} {n : Nat} {st st' : Slots} {fs : List Foot}, Run C rec ops l st st' fs → (∀ j, l[j]? = ops[n + j]?) → (∀ f ∈ fs, f.live = true) →
    ∃ items : List Item, LRun C rec ops items st st' ∧ items.map (·.i) = List.range' n l.length ∧ items.map (·.f) = fs
  | [], n, _, _, _, .nil _, _, _ => ⟨[], .nil _ _ (Same.refl _), rfl, rfl⟩
  | o :: l, n, _, _, _, .cons _ _ st st1 st2 f fs h hr, hi, hl => by
    obtain ⟨es, h1, h2⟩ := step_local h (hl f (by simp))
    obtain ⟨items, g1, g2, g3⟩ := run_items (n := n + 1) hr (fun j => by have := hi (j + 1); simpa [Nat.add_assoc, Nat.add_comm 1 j] using this) (fun g hg => hl g (by simp [hg]))
    have ho : ops[n]? = some o := by simpa using (hi 0).symm
    exact ⟨⟨n, o, f, es⟩ :: items, .cons _ _ _ _ ho h2 (g1.congr h1), by simp [g2, List.range'_succ], by simp [g3]⟩

/-! ### which stand ahead -/
theorem masks_prefix : ∀ (l : List Oper) (acc : List Nat), (masks l acc).take acc.length = acc ∧ (masks l acc).length = acc.length + l.length
  | [], acc => ⟨by simp [masks], by simp [masks]⟩
  | o :: l, acc => by
    obtain ⟨h1, h2⟩ := masks_prefix l (acc ++ [maskOf acc o])
    refine ⟨?_, by simp only [masks, h2, List.length_append, List.length_cons, List.length_nil]; omega⟩
    simp only [masks]
    have := congrArg (List.take acc.length) h1
    simpa [List.take_take] using this
theorem masks_get : ∀ (l : List Oper) (acc : List Nat) (j : Nat) (o : Oper), l[j]? = some o → (masks l acc).getD (acc.length + j) 0 = maskOf ((masks l acc).take (acc.length + j)) o
  | [], _, _, _, h => by simp at h
  | p :: l, acc, 0, o, h => by
    simp at h
    subst h
    obtain ⟨h1, h2⟩ := masks_prefix l (acc ++ [maskOf acc p])
    simp only [masks, Nat.add_zero]
    have e1 : (masks l (acc ++ [maskOf acc p])).take acc.length = acc := by
      have := congrArg (List.take acc.length) h1
      simpa [List.take_take] using this
    rw [e1]
    have hlt : acc.length < (masks l (acc ++ [maskOf acc p])).length := by rw [h2]; simp; omega
    have e2 : (masks l (acc ++ [maskOf acc p]))[acc.length]? = some (maskOf acc p) := by
      have := congrArg (fun z => z[acc.length]?) h1
      simpa [List.getElem?_take] using this
    simp [List.getD, e2]
  | p :: l, acc, j + 1, o, h => by
    have := masks_get l (acc ++ [maskOf acc p]) j o (by simpa using h)
    simp only [masks]
    simp only [List.length_append, List.length_cons, List.length_nil] at this
    rw [show acc.length + (j + 1) = acc.length + (0 + 1) + j by omega]
    exact this

theorem maskOf_bit {acc : List Nat} {o : Oper} {i : Nat} (h : Nat.testBit (maskOf acc o) i = true) : ∃ e ∈ o.after, Region.binds .any e = true ∧ (i = e.on ∨ Nat.testBit (acc.getD e.on 0) i = true) := by
  have key : ∀ (l : List Edge) (s : Nat), Nat.testBit (l.foldl (fun s e => match Region.binds .any e with
      | true => Nat.lor s (Nat.lor (Nat.shiftLeft 1 e.on) (acc.getD e.on 0))
      | false => s) s) i = true → Nat.testBit s i = true ∨ ∃ e ∈ l, Region.binds .any e = true ∧ (i = e.on ∨ Nat.testBit (acc.getD e.on 0) i = true) := by
    intro l
    induction l with
    | nil => intro s h; exact .inl h
    | cons e l ih =>
      intro s h
      simp only [List.foldl_cons] at h
      rcases ih _ h with h1 | ⟨e', h1, h2⟩
      · cases hb : Region.binds .any e with
        | false => rw [hb] at h1; exact .inl h1
        | true =>
          rw [hb] at h1
          dsimp only at h1
          have e1 : Nat.lor s (Nat.lor (Nat.shiftLeft 1 e.on) (acc.getD e.on 0)) = s ||| (1 <<< e.on ||| acc.getD e.on 0) := rfl
          rw [e1, Nat.testBit_or, Nat.testBit_or, Bool.or_eq_true, Bool.or_eq_true] at h1
          rcases h1 with h1 | h1 | h1
          · exact .inl h1
          · right
            refine ⟨e, by simp, hb, .inl ?_⟩
            rw [Nat.one_shiftLeft, Nat.testBit_two_pow] at h1
            exact (of_decide_eq_true h1).symm
          · right; exact ⟨e, by simp, hb, .inr h1⟩
      · exact .inr ⟨e', by simp [h1], h2⟩
  rcases key o.after.toList 0 (by unfold maskOf at h; exact h) with h | ⟨e, he, h⟩
  · simp at h
  · exact ⟨e, Array.mem_toList_iff.1 he, h⟩

/-- Bits of a mask are of operations that stand ahead. -/
theorem mask_listed {listed : Array Bool} (hcl : ∀ k, listed.getD k false = true → ∀ i, Nat.testBit ((masks ops.toList []).getD k 0) i = true → listed.getD i false = true) {j : Nat} (hj : j ∈ Region.ready .any ops listed) (i : Nat)
    (hb : Nat.testBit ((masks ops.toList []).getD j 0) i = true) : listed.getD i false = true := by
  obtain ⟨_, o, ho, hall⟩ := mem_ready.1 hj
  have hm := masks_get ops.toList [] j o (by simpa using ho)
  simp only [List.length_nil, Nat.zero_add] at hm
  rw [hm] at hb
  obtain ⟨e, he, hbd, hi⟩ := maskOf_bit hb
  have hel := hall e he hbd
  rcases hi with rfl | hi
  · exact hel
  · refine hcl e.on hel i ?_
    by_cases hlt : e.on < j
    · have : ((masks ops.toList []).take j).getD e.on 0 = (masks ops.toList []).getD e.on 0 := by
        simp [List.getD, List.getElem?_take, hlt]
      rw [this] at hi; exact hi
    · have : ((masks ops.toList []).take j).getD e.on 0 = 0 := by
        simp [List.getD, List.getElem?_take, hlt]
      rw [this] at hi; simp at hi

theorem pairsOk_spec {ms : List Nat} {j : Nat} {f : Foot} : ∀ {l : List Foot} {n : Nat}, pairsOk ms j f n l = true → ∀ (q : Nat) (g : Foot), l[q]? = some g → Nat.testBit (ms.getD j 0) (n + q) = true ∨ g.apart f = true
  | [], _, _, q, g, h => by simp at h
  | x :: l, n, h, q, g, hq => by
    simp only [pairsOk, Bool.and_eq_true, Bool.or_eq_true] at h
    cases q with
    | zero => simp at hq; subst hq; simpa using h.1
    | succ q =>
      have := pairsOk_spec h.2 q g (by simpa using hq)
      rw [show n + (q + 1) = n + 1 + q by omega]; exact this
theorem allPairs_spec {ms : List Nat} : ∀ {l done : List Foot} {j : Nat}, done.length = j → allPairs ms j done l = true → ∀ (p q : Nat) (f g : Foot), p < q → j ≤ q → (done ++ l)[p]? = some g → (done ++ l)[q]? = some f → Nat.testBit (ms.getD q 0) p = true ∨ g.apart f = true
  | [], done, j, hl, _, p, q, f, g, _, hq, _, hf => by
    have := (List.getElem?_eq_some_iff.1 hf).1
    simp at this
    omega
  | x :: l, done, j, hl, h, p, q, f, g, hpq, hq, hg, hf => by
    simp only [allPairs, Bool.and_eq_true] at h
    by_cases hqj : q = j
    · subst hqj
      have e1 : (done ++ x :: l)[q]? = some x := by rw [List.getElem?_append_right (by omega)]; simp [hl]
      rw [e1] at hf
      cases hf
      have e2 : done[p]? = some g := by rw [List.getElem?_append_left (by omega)] at hg; exact hg
      have := pairsOk_spec h.1 p g e2
      simpa using this
    · have := allPairs_spec (done := done ++ [x]) (j := j + 1) (by simp [hl]) h.2 p q f g hpq (by omega) (by simpa using hg) (by simpa using hf)
      exact this
theorem edgesBack_spec : ∀ {l : List Oper} {n : Nat}, edgesBack l n = true → ∀ (j : Nat) (o : Oper), l[j]? = some o → ∀ e ∈ o.after, Region.binds .any e = true → e.on < n + j
  | [], _, _, j, o, h, _, _, _ => by simp at h
  | x :: l, n, h, j, o, hj, e, he, hb => by
    simp only [edgesBack, Bool.and_eq_true] at h
    cases j with
    | zero =>
      simp at hj
      subst hj
      have := List.all_eq_true.1 h.1 e (Array.mem_toList_iff.2 he)
      rw [hb] at this
      simp only [Bool.not_true, Bool.false_or] at this
      rw [Nat.blt_eq] at this
      omega
    | succ j =>
      have := edgesBack_spec h.2 j o (by simpa using hj) e he hb
      omega
end
end Go.Ev

namespace Go.Ev

section
variable {C : Ctx} {rec : Rec} {ops : Array Oper} {w0 : World} {B : Nat → Prop} {N : Nat} {Oc K : Nat → Prop} {t0 : Nat → Value} {Q : Exit → Act → World → Prop}

theorem list_wp (hN : namesOk C.P = true) (hOc : ∀ k, Oc k → k < w0.heap.size) (hrec : ∀ g os rr, rec g os = some rr → CallSpec C.P g os rr.1 rr.2) :
    ∀ {l : List Oper} {st st' : Slots} {fs : List Foot} {w : World} {act : Act}, Run C rec ops l st st' fs → (∀ o ∈ l, ∀ d, o.dst = some d → d < N ∧ ¬ K d) → Fr w0 B N Oc K t0 w st act → (∀ a w', Fr w0 B N Oc K t0 w' st' a → Q .normal a w') → wpList C.P ops Q l act w
  | [], _, _, _, w, act, .nil _, _, h, hQ => hQ _ _ h
  | o :: l, _, _, _, w, act, .cons _ _ st st1 st2 f fs h1 hr, hd, h, hQ => by
    unfold wpList
    exact step_wp (next := wpList C.P ops Q l) hN hOc hrec h (hd o (by simp)) h1 fun a w' hf => list_wp hN hOc hrec hr (fun p hp => hd p (by simp [hp])) hf hQ

theorem Fr.drew {w : World} {st : Slots} {act : Act} (h : Fr w0 B N Oc K t0 w st act) : Fr w0 B N Oc K t0 { w with drawn := w.drawn + 1 } st act := by
  obtain ⟨blk, h1, h2⟩ := h.ex
  exact ⟨⟨blk, h1.world (w' := { w with drawn := w.drawn + 1 }) (Nat.le_refl _) (fun _ _ _ => rfl) (fun _ _ q => q), h2⟩, h.defers, h.size, ⟨h.grow.os, h.grow.tape, h.grow.output, h.grow.size, h.grow.same⟩, h.kept⟩

/-- The operations that are not carried out yet: in the order of the text, each behind those that stand ahead. -/
structure Rest (ops : Array Oper) (listed : Array Bool) (items : List Item) : Prop where
  sorted : (items.map (·.i)).Pairwise (· < ·)
  mem : ∀ i, listed.getD i true = false ↔ i ∈ items.map (·.i)
  closed : ∀ k, listed.getD k false = true → ∀ i, Nat.testBit ((masks ops.toList []).getD k 0) i = true → listed.getD i false = true
  apart : ∀ (p q : Nat) (x y : Item), p < q → items[p]? = some x → items[q]? = some y → Nat.testBit ((masks ops.toList []).getD y.i 0) x.i = true ∨ x.f.apart y.f = true
  size : listed.size = ops.size

theorem getD_two {listed : Array Bool} {i : Nat} (h : i < listed.size) : listed.getD i true = listed.getD i false := by
  simp [h]

theorem any_wp (hN : namesOk C.P = true) (hOc : ∀ k, Oc k → k < w0.heap.size) (hrec : ∀ g os rr, rec g os = some rr → CallSpec C.P g os rr.1 rr.2) (hback : edgesBack ops.toList 0 = true) (hd : ∀ o ∈ ops.toList, ∀ d, o.dst = some d → d < N ∧ ¬ K d) {stN : Slots}
    (hQ : ∀ a w', Fr w0 B N Oc K t0 w' stN a → Q .normal a w') : ∀ (fuel : Nat) (listed : Array Bool) (items : List Item) (st : Slots) (w : World) (act : Act), items.length = fuel → LRun C rec ops items st stN → Rest ops listed items → Fr w0 B N Oc K t0 w st act →
      wpAny C.P .any ops Q fuel listed act w
  | 0, listed, items, st, w, act, hl, hr, hrest, h => by
    have : items = [] := List.eq_nil_of_length_eq_zero hl
    subst this
    cases hr with
    | nil _ _ hs =>
    refine ⟨?_, hQ _ _ (h.same hs.symm)⟩
    rw [List.eq_nil_iff_forall_not_mem]
    intro j hj
    have := (hrest.mem j).1 (mem_ready.1 hj).1
    simp at this
  | fuel + 1, listed, items, st, w, act, hl, hr, hrest, h => by
    refine ⟨fun hnil => ?_, fun i hi => ?_⟩
    · -- the first that is left is ready
      exfalso
      cases items with
      | nil => simp at hl
      | cons x l =>
        cases hr with
        | cons _ _ _ _ ho hx hr =>
        have hun : listed.getD x.i true = false := (hrest.mem x.i).2 (by simp)
        have : x.i ∈ Region.ready .any ops listed := by
          refine mem_ready.2 ⟨hun, x.o, ho, fun e he hb => ?_⟩
          have hlt := edgesBack_spec hback x.i x.o (by simpa using ho) e he hb
          rw [Nat.zero_add] at hlt
          have hxi : x.i < ops.size := (Array.getElem?_eq_some_iff.1 ho).1
          have hls : e.on < listed.size := by rw [hrest.size]; omega
          cases hle : listed.getD e.on false with
          | true => rfl
          | false =>
            exfalso
            rw [← getD_two hls] at hle
            have hm := (hrest.mem e.on).1 hle
            simp only [List.map_cons, List.mem_cons] at hm
            rcases hm with hm | hm
            · omega
            · have hs := hrest.sorted
              simp only [List.map_cons, List.pairwise_cons] at hs
              have := hs.1 _ hm
              omega
        rw [hnil] at this
        cases this
    · -- one that is ready is carried out
      obtain ⟨hun, o, ho, hall⟩ := mem_ready.1 hi
      have hmem := (hrest.mem i).1 hun
      obtain ⟨x, hx, hxi⟩ := List.mem_map.1 hmem
      obtain ⟨pre, post, rfl⟩ := List.append_of_mem hx
      have hap : ∀ y ∈ pre, y.f.apart x.f = true := by
        intro y hy
        obtain ⟨p, hp, rfl⟩ := List.mem_iff_getElem.1 hy
        have h1 : (pre ++ x :: post)[p]? = some pre[p] := by rw [List.getElem?_append_left hp]; exact List.getElem?_eq_getElem hp
        have h2 : (pre ++ x :: post)[pre.length]? = some x := by rw [List.getElem?_append_right (Nat.le_refl _)]; simp
        rcases hrest.apart p pre.length _ _ hp h1 h2 with hb | hb
        · exfalso
          rw [hxi] at hb
          have hlst := mask_listed hrest.closed hi _ hb
          have hin : listed.getD pre[p].i true = false := (hrest.mem _).2 (by simp; left; exact ⟨pre[p], hy, rfl⟩)
          have : pre[p].i < listed.size := by
            rcases Nat.lt_or_ge pre[p].i listed.size with h' | h'
            · exact h'
            · simp [Array.getElem?_eq_none h'] at hlst
          rw [getD_two this, hlst] at hin
          cases hin
        · exact hb
      have hfront := hr.front hap
      cases hfront with
      | cons _ _ _ _ ho2 hloc hr2 =>
      have hoo : o = x.o := by rw [hxi, ho] at ho2; exact Option.some.inj ho2
      subst hoo
      unfold wpOp
      simp only [ho]
      have hstep := hloc.again st (fun _ _ => rfl)
      refine step_wp (next := wpAny C.P .any ops Q fuel (listed.setIfInBounds i true)) hN hOc hrec h (hd x.o (by have := Array.mem_of_getElem? ho; exact Array.mem_toList_iff.2 this)) hstep fun a w' hf => ?_
      have hil : i < listed.size := by
        rcases Nat.lt_or_ge i listed.size with h' | h'
        · exact h'
        · simp [Array.getElem?_eq_none h'] at hun
      have hidx : ∀ j : Nat, (listed.setIfInBounds i true).getD j true = if j = i then true else listed.getD j true := by
        intro j
        by_cases hji : j = i
        · subst hji; simp [hil]
        · rw [if_neg hji, getD_set_ne true (Ne.symm hji)]
      have hidxf : ∀ j : Nat, (listed.setIfInBounds i true).getD j false = if j = i then true else listed.getD j false := by
        intro j
        by_cases hji : j = i
        · subst hji; simp [hil]
        · rw [if_neg hji, getD_set_ne false (Ne.symm hji)]
      have hsort := hrest.sorted
      rw [List.map_append, List.map_cons, List.pairwise_append] at hsort
      have hcons := List.pairwise_cons.1 hsort.2.1
      refine any_wp hN hOc hrec hback hd hQ fuel (listed.setIfInBounds i true) (pre ++ post) _ w' a (by simp at hl ⊢; omega) hr2 ⟨?_, fun j => ?_, fun k hk q hq => ?_, fun p q y z hpq hy hz => ?_, by simp [hrest.size]⟩ hf
      · rw [List.map_append, List.pairwise_append]
        exact ⟨hsort.1, hcons.2, fun a ha b hb => hsort.2.2 a ha b (by simp [hb])⟩
      · rw [hidx]
        by_cases hji : j = i
        · subst hji
          simp only [if_true, Bool.true_eq_false, false_iff]
          rw [List.map_append, List.mem_append]
          rintro (hm | hm)
          · have := hsort.2.2 _ hm x.i (by simp)
            omega
          · have := hcons.1 _ hm
            omega
        · rw [if_neg hji, hrest.mem j]
          simp only [List.map_append, List.map_cons, List.mem_append, List.mem_cons]
          rw [hxi]
          constructor
          · rintro (hm | hm | hm)
            · exact .inl hm
            · exact absurd hm hji
            · exact .inr hm
          · rintro (hm | hm)
            · exact .inl hm
            · exact .inr (.inr hm)
      · rw [hidxf] at hk ⊢
        split
        · rfl
        · split at hk
          · rename_i hki
            subst hki
            exact mask_listed hrest.closed hi q hq
          · exact hrest.closed k hk q hq
      · have back : ∀ (q : Nat) (y : Item), (pre ++ post)[q]? = some y → ∃ q', (pre ++ x :: post)[q']? = some y ∧ (q < pre.length → q' = q) ∧ (¬ q < pre.length → q' = q + 1) := by
          intro q y hy
          by_cases hq : q < pre.length
          · rw [List.getElem?_append_left hq] at hy
            exact ⟨q, by rw [List.getElem?_append_left hq]; exact hy, fun _ => rfl, fun h' => absurd hq h'⟩
          · rw [List.getElem?_append_right (by omega)] at hy
            refine ⟨q + 1, ?_, fun h' => absurd h' hq, fun _ => rfl⟩
            rw [List.getElem?_append_right (by omega), show q + 1 - pre.length = (q - pre.length) + 1 by omega, List.getElem?_cons_succ]
            exact hy
        obtain ⟨p', h1, h2, h3⟩ := back p y hy
        obtain ⟨q', g1, g2, g3⟩ := back q z hz
        refine hrest.apart p' q' y z ?_ h1 g1
        by_cases c1 : p < pre.length <;> by_cases c2 : q < pre.length
        · rw [h2 c1, g2 c2]; exact hpq
        · rw [h2 c1, g3 c2]; omega
        · omega
        · rw [h3 c1, g3 c2]; omega

theorem region_wp (hN : namesOk C.P = true) (hOc : ∀ k, Oc k → k < w0.heap.size) (hrec : ∀ g os rr, rec g os = some rr → CallSpec C.P g os rr.1 rr.2) {id : Nat} {draw : Bool} {st st' : Slots} {fs : List Foot} {w : World} {act : Act}
    (hrun : Run C rec ops ops.toList st st' fs) (hdr : draw = true → C.P.follows .mixedOrders = true ∧ orderFree ops.toList fs = true) (hd : ∀ o ∈ ops.toList, ∀ d, o.dst = some d → d < N ∧ ¬ K d) (h : Fr w0 B N Oc K t0 w st act)
    (hQ : ∀ a w', Fr w0 B N Oc K t0 w' st' a → Q .normal a w') : (Code.region id ops draw).wp C.P Q act w := by
  cases draw with
  | false => exact wp_region_list (list_wp hN hOc hrec hrun hd h hQ)
  | true =>
    obtain ⟨hm, hof⟩ := hdr rfl
    simp only [orderFree, Bool.and_eq_true] at hof
    obtain ⟨⟨hback, hlive⟩, hpairs⟩ := hof
    obtain ⟨items, g1, g2, g3⟩ := run_items (n := 0) hrun (fun j => by simp) (fun f hf => List.all_eq_true.1 hlive f hf)
    have hlen : items.length = ops.size := by
      have := congrArg List.length g2
      simpa using this
    refine wp_region_any hm (any_wp hN hOc hrec hback hd hQ ops.size _ items st _ act hlen g1 ⟨?_, fun i => ?_, fun k hk i _ => ?_, fun p q x y hpq hx hy => ?_, by simp⟩ h.drew)
    · rw [g2]; exact List.pairwise_lt_range'
    · rw [g2]
      simp only [List.mem_range'_1, Nat.zero_le, true_and, Nat.zero_add, Array.length_toList]
      by_cases hi : i < ops.size
      · simp [hi]
      · simp [hi]
    · by_cases hk' : k < ops.size
      · simp [hk'] at hk
      · simp [hk'] at hk
    · have hxi : x.i = p := by
        have : (items.map (·.i))[p]? = some x.i := by simp [hx]
        rw [g2] at this
        obtain ⟨h1, h2⟩ := List.getElem?_eq_some_iff.1 this
        simpa using h2.symm
      have hyi : y.i = q := by
        have : (items.map (·.i))[q]? = some y.i := by simp [hy]
        rw [g2] at this
        obtain ⟨h1, h2⟩ := List.getElem?_eq_some_iff.1 this
        simpa using h2.symm
      have hfx : fs[p]? = some x.f := by rw [← g3]; simp [hx]
      have hfy : fs[q]? = some y.f := by rw [← g3]; simp [hy]
      rw [hxi, hyi]
      exact allPairs_spec (done := []) (j := 0) rfl hpairs p q y.f x.f hpq (Nat.zero_le _) (by simpa using hfx) (by simpa using hfy)
end
end Go.Ev

namespace Go.Ev

section
variable {P : Program} {w : World} {act : Act}

/-- The frame's temporaries. -/
abbrev tmOf (act : Act) : Nat → Value := fun t => act.tmps.getD t Go.undef

/-- A result variable's value on the machine. -/
def rvSem (tm : Nat → Value) : ResultVar → Sem Value
  | .tmp t => pure (tm t)
  | .cell a t => do loadVar t (← asAddr (tm a))

theorem result_pend {Oc : Nat → Prop} {st st' : Slots} {blk : Blk} {r : ResultVar} {o : OV} (h : SRel w Oc st (tmOf act) blk) (hr : resultOf P st r = some (o, st')) :
    ∃ u blk' pb, (rvSem (tmOf act) r).run P w = .ok u w ∧ Pend w Oc st' (tmOf act) blk' (.home o) u pb ∧ (∀ t c k, blk' t c = some k → blk t c = some k) ∧ (∀ c k, pb c = some k → blk.has k) := by
  have F : ∀ {x : Nat} {a : Arg}, fetch P st 0 (.tmp x) = some a → ArgRep w (blk.off Oc) st (tmOf act) a (tmOf act x) := fun hf => fetch_rep h hf act (fun _ => rfl)
  cases r with
  | tmp t =>
    simp only [resultOf] at hr
    split at hr
    · cases hr
    · rename_i a ha
      have hA := F ha
      have hrun : (rvSem (tmOf act) (.tmp t)).run P w = .ok (tmOf act t) w := by simp [rvSem]
      split at hr
      · rename_i o' hsv
        cases hr
        refine ⟨tmOf act t, blk, fun _ => none, hrun, ⟨h.world (Nat.le_refl _) (fun _ _ _ => rfl) (fun k _ q => ?_), fun _ _ _ q => (by cases q), fun _ _ q => (by cases q), ?_⟩, fun _ _ _ q => q, fun _ _ q => (by cases q)⟩
        · rcases q with q | ⟨_, q⟩
          · exact q
          · cases q
        · have hrep := hA.rep
          rw [hsv] at hrep
          exact hrep.move ⟨fun k _ hno => ⟨rfl, by
            rintro (q | q | ⟨_, q⟩)
            · exact hno (.inl q)
            · exact hno (.inr q)
            · cases q⟩, fun _ _ => rfl⟩ (fun s hs => by simp [SV.root] at hs)
      · split at hr
        · rename_i o' es ho ht
          cases hr
          obtain ⟨blk', pb, h1, h2, h3⟩ := take_rep h hA ho ht
          exact ⟨tmOf act t, blk', pb, hrun, h1, h2, h3⟩
        · cases hr
      · rename_i s h' hsv
        split at hr
        · rename_i s' sh xs sp hrt
          cases hr
          obtain ⟨hg, hroot⟩ := hA.root s' _ hrt
          rw [hsv] at hroot
          cases (Option.some.inj hroot : s = s')
          have hrep := hA.rep
          rw [hsv] at hrep
          obtain ⟨v1, v2, z, hp, hv⟩ := hrep.2 _ _ _ _ hg rfl
          obtain ⟨bb, hf, hown⟩ := own_at h hg rfl hp
          have hz := hp.top_eq
          have hO := h.rep s
          rw [hg] at hO
          obtain ⟨hf0, hβ⟩ := (show ORep w (blk.off Oc) (.flat (.own sh xs sp)) (tmOf act s) (blk s none) (fun j => blk s (some j)) from hO).flat_inv
          -- the row is taken away
          have key := SRel.edit (w' := w) (Oc' := fun k => Oc k ∨ ∃ c, blk s c = some k) h ⟨s, .dead, .all⟩ (tmOf act s) (fun _ => none) (Nat.le_refl _) (fun _ _ _ _ => rfl) (fun k _ x => x) (by simp) (by simp)
            (fun _ => rfl) (fun t ht hroot _ => by rw [get_on] at hroot; exact absurd hroot (cutAll_root _ _))
          rw [updN_self] at key
          have hsub : ∀ t c k, updN blk s (fun _ => none) t c = some k → blk t c = some k ∧ t ≠ s := by
            intro t c k q
            by_cases ht : t = s
            · subst ht; rw [updN_same] at q; cases q
            · rw [updN_ne _ _ ht] at q; exact ⟨q, ht⟩
          have fin : ∀ m : Option Nat, (∀ k, m = some k → blk s none = some k) → FRep w (blk.off Oc) (.own sh (xs.take h') []) (tmOf act t) m →
              ∃ u blk' pb, (rvSem (tmOf act) (.tmp t)).run P w = .ok u w ∧ Pend w Oc (edits [⟨s, .dead, .all⟩] st) (tmOf act) blk' (.home (.flat (.own sh (xs.take h') []))) u pb ∧ (∀ t c k, blk' t c = some k → blk t c = some k) ∧ (∀ c k, pb c = some k → blk.has k) := by
            intro m hm hfr
            refine ⟨tmOf act t, updN blk s (fun _ => none), fun c => match c with | none => m | some _ => none, hrun, ⟨key.world (Nat.le_refl _) (fun _ _ _ => rfl) (fun k _ q => ?_), fun c c' k q q' => ?_, fun c k q => ?_, ?_⟩, fun t c k q => (hsub _ _ _ q).1, fun c k q => ?_⟩
            · rcases q with q | ⟨c, q⟩
              · exact .inl q
              · cases c with
                | none => exact .inr ⟨none, hm _ q⟩
                | some j => cases q
            · cases c <;> cases c' <;> first | rfl | (cases q; done) | (cases q'; done)
            · cases c with
              | none => exact h.out _ _ _ (hm _ q)
              | some j => cases q
            · refine .flat _ _ _ (hfr.move ⟨fun k _ hno => ⟨rfl, fun q => hno ?_⟩, fun _ _ => rfl⟩)
              rcases q with ⟨t', c, q⟩ | q | ⟨c, q⟩
              · exact .inl ⟨t', c, (hsub _ _ _ q).1⟩
              · exact .inr q
              · cases c with
                | none => exact .inl ⟨s, none, hm _ q⟩
                | some j => cases q
            · cases c with
              | none => exact ⟨s, none, hm _ q⟩
              | some j => cases q
          have htl : (xs.take h').length = h' := by rw [List.length_take]; omega
          rcases hv with ⟨b, q0, cap, c', q1, q2, q3, q4, q5⟩ | ⟨q1, A', c', q3, q4⟩
          · cases hf with
            | ownE =>
              have h0 : h' = 0 := by simpa using v2
              simp only [Value.slice.injEq] at q2
              have hc0 : c' = 0 := by omega
              rw [h0, hc0] at q3
              rw [h0] at fin ⊢
              refine fin none (fun _ e => by cases e) ?_
              rw [List.take_zero, q3]
              exact .ownE _ _
            | own _ _ _ b2 c2 cur ty' fr us how =>
              simp only [Value.slice.injEq, Option.some.injEq, Addr.mk.injEq] at q2
              obtain ⟨⟨rfl, _⟩, _, rfl⟩ := q2
              have hat : blk s none = some b2 := by
                obtain ⟨cc, hcc⟩ : ∃ cc, blk s cc = some b2 := hown b2 rfl
                cases cc with
                | none => exact hcc
                | some j => rw [hβ j] at hcc; cases hcc
              refine fin (some b2) (fun k e => by cases e; exact hat) ?_
              have hx : ∀ (i : Nat) (y : PV), (xs.take h')[i]? = some y → xs[i]? = some y := by
                intro i y hi
                rw [List.getElem?_take] at hi
                split at hi
                · exact hi
                · cases hi
              have hown' : OwnAt w (blk.off Oc) sh (xs.take h') [] b2 c' cur ty' fr us :=
                { heap := how.heap, thaw := how.thaw
                  size := Nat.le_trans (Nat.mul_le_mul_right _ (by omega)) how.size
                  len := by rw [htl]; omega
                  fits := fun i y hi => how.fits i y (hx i y hi)
                  cell := fun i y j d hi hd => how.cell i y j d (hx i y hi) hd
                  at_ := fun i y j d hi hd => how.at_ i y j d (hx i y hi) hd
                  rep := fun i y j d hi hd => how.rep i y j d (hx i y hi) hd
                  spare := fun j y hj => by simp at hj
                  capL := by have := how.capL; omega
                  spL := by simp only [List.length_nil, htl]; omega }
              have := FRep.own sh (xs.take h') [] b2 c' cur ty' fr us hown'
              rw [htl] at this
              rw [q3, Nat.zero_mul, Nat.sub_zero]
              exact this
          · subst q1 q4
            rw [List.take_zero] at fin ⊢
            refine fin none (fun _ e => by cases e) ?_
            rw [q3]
            exact .ownE _ _
        · cases hr
      · split at hr
        · rename_i v es hv hf
          cases hr
          obtain ⟨blk', h1, h2, h3, _, _⟩ := freeze_arg h (fun s o hrt => hA.root s o hrt) hv hf
          have hrep := arg_pv h hA hv
          refine ⟨tmOf act t, blk', fun _ => none, hrun, ⟨h1.world (Nat.le_refl _) (fun _ _ _ => rfl) (fun k _ q => ?_), fun _ _ _ q => (by cases q), fun _ _ q => (by cases q), ?_⟩, h2, fun _ _ q => (by cases q)⟩
          · rcases q with q | ⟨_, q⟩
            · exact q
            · cases q
          · refine .flat _ _ _ (.val _ _ (hrep.move fun k _ hno => ⟨rfl, fun q => hno ?_⟩))
            rcases q with ⟨t', c, q⟩ | q | ⟨_, q⟩
            · exact ⟨.inl ⟨t', c, h2 _ _ _ q⟩, h3 _ _ _ q⟩
            · refine ⟨.inr q, fun ow => ?_⟩
              obtain ⟨s, c, _, q'⟩ := owns_root ow
              exact (h.out _ _ _ q').1 q
            · cases q
        · cases hr
  | cell x t =>
    simp only [resultOf] at hr
    split at hr
    · rename_i a sh ha hs
      have hA := F ha
      split at hr
      · rename_i s s' cs hsv hrt
        obtain ⟨hg, hroot⟩ := hA.root s' _ hrt
        rw [hsv] at hroot
        cases (Option.some.inj hroot : s = s')
        have hrep := hA.rep
        rw [hsv] at hrep
        have hu := (hrep.2 _ hg).2.top_eq
        have hO := h.rep s
        rw [hg] at hO
        obtain ⟨b, hb, hm, cur, e, fr, hheap, hth, hsz, hcells⟩ := ORep.box_inv hO
        have hck : ∀ (j : Nat) (f : FV), cs[j]? = some f → f.cellOk := fun j f hj => ORep.cellOk hO (by simp) hj
        -- the variable is taken away
        have key := SRel.edit (w' := w) (Oc' := fun k => Oc k ∨ ∃ c, blk s c = some k) h ⟨s, .dead, .all⟩ (tmOf act s) (fun _ => none) (Nat.le_refl _) (fun _ _ _ _ => rfl) (fun k _ x => x) (by simp) (by simp)
          (fun _ => rfl) (fun t ht hroot _ => by rw [get_on] at hroot; exact absurd hroot (cutAll_root _ _))
        rw [updN_self] at key
        have hsub : ∀ t c k, updN blk s (fun _ => none) t c = some k → blk t c = some k ∧ t ≠ s := by
          intro t c k q
          by_cases ht : t = s
          · subst ht; rw [updN_same] at q; cases q
          · rw [updN_ne _ _ ht] at q; exact ⟨q, ht⟩
        have hL : Loose w Oc (edits [⟨s, .dead, .all⟩] st) (tmOf act) (updN blk s fun _ => none) cs cur (fun j => blk s (some j)) := by
          refine ⟨key.world (Nat.le_refl _) (fun _ _ _ => rfl) (fun k _ q => ?_), fun j j' k q q' => Option.some.inj (h.inj _ _ _ _ _ q q').2, fun j k q => h.out _ _ _ q, hsz, hck, hcells.move ⟨fun k _ hno => ⟨rfl, fun q => hno ?_⟩, fun _ _ => rfl⟩⟩
          · rcases q with q | ⟨j, q⟩
            · exact .inl q
            · exact .inr ⟨some j, q⟩
          · rcases q with ⟨t', c, q⟩ | q | ⟨j, q⟩
            · exact .inl ⟨t', c, (hsub _ _ _ q).1⟩
            · exact .inr q
            · exact .inl ⟨s, some j, q⟩
        have haddr : (asAddr (tmOf act x)).run P w = .ok ⟨b, 0, none⟩ w := by
          rw [hu, hb]; simp [asAddr]
        split at hr
        · split at hr
          · rename_i f
            cases hr
            obtain ⟨u, u1, u2⟩ := hcells.rep 0 f rfl
            have hc : w.cell? ⟨b, 0, none⟩ = some u := by rw [cell_at hheap]; exact u1
            refine ⟨u, _, fun c => match c with | none => blk s (some 0) | some _ => none, ?_, ⟨hL.base.world (Nat.le_refl _) (fun _ _ _ => rfl) (fun k _ q => ?_), fun c c' k q q' => ?_, fun c k q => ?_, ?_⟩, fun t c k q => (hsub _ _ _ q).1, fun c k q => ?_⟩
            · simp only [rvSem, Sem.run_bind, haddr, Result.andThen_ok]
              exact run_loadVar_one hs hc
            · rcases q with q | ⟨c, q⟩
              · exact .inl q
              · cases c with
                | none => exact .inr ⟨0, q⟩
                | some j => cases q
            · cases c <;> cases c' <;> first | rfl | (cases q; done) | (cases q'; done)
            · cases c with
              | none => exact h.out _ _ _ q
              | some j => cases q
            · refine .flat _ _ _ (u2.move ⟨fun k _ hno => ⟨rfl, fun q => hno ?_⟩, fun _ _ => rfl⟩)
              rcases q with ⟨t', c, q⟩ | q | ⟨c, q⟩
              · exact .inl ⟨t', c, (hsub _ _ _ q).1⟩
              · exact .inr q
              · cases c with
                | none => exact .inl ⟨s, some 0, q⟩
                | some j => cases q
            · cases c with
              | none => exact ⟨s, some 0, q⟩
              | some j => cases q
          · cases hr
        · rename_i n
          split at hr
          · rename_i hn
            have hn := Nat.eq_of_beq_eq_true hn
            cases hr
            have hp := hL.agg
            refine ⟨.agg cur, _, _, ?_, hp, fun t c k q => (hsub _ _ _ q).1, fun c k q => ?_⟩
            · simp only [rvSem, Sem.run_bind, haddr, Result.andThen_ok]
              have := run_loadVar_agg (P := P) (w := w) hs (a := ⟨b, 0, none⟩) (f := fun q => cur.getD q Go.undef) (fun q hq => by
                rw [addr_add, Nat.zero_add, cell_at hheap]
                have : q < cur.size := by omega
                simp [this])
              rw [this]
              have e1 : ((List.range n).map fun q => cur.getD q Go.undef).toArray = cur := by
                apply Array.ext
                · simp; omega
                · intro i h1 h2
                  simp [h2]
              rw [e1]
            · cases c with
              | none => cases q
              | some j => exact ⟨s, some j, q⟩
          · cases hr
      · cases hr
    · cases hr

/-- All results, beside the frame. -/
structure Resulted (w : World) (Oc : Nat → Prop) (st : Slots) (tm : Nat → Value) (blk0 blk pbs : Blk) (rs : List OV) (vs : List Value) : Prop where
  frame : SRel w (fun k => Oc k ∨ pbs.has k) st tm blk
  sub : ∀ t c k, blk t c = some k → blk0 t c = some k
  from_ : ∀ i c k, pbs i c = some k → blk0.has k
  inj : ∀ i c i' c' k, pbs i c = some k → pbs i' c' = some k → i = i' ∧ c = c'
  rep : ∀ (i : Nat) (o : OV) (u : Value), rs[i]? = some o → vs[i]? = some u → ORep w (blk.off fun k => Oc k ∨ pbs.has k) o u (pbs i none) (fun j => pbs i (some j))
  len : vs.length = rs.length
  end_ : ∀ i, rs.length ≤ i → ∀ c, pbs i c = none

theorem results_rep : ∀ {rvs : List ResultVar} {st st' : Slots} {Oc : Nat → Prop} {blk : Blk} {rs : List OV}, SRel w Oc st (tmOf act) blk → resultsOf P rvs st = some (rs, st') →
    ∃ vs blk' pbs, (rvs.mapM (rvSem (tmOf act))).run P w = .ok vs w ∧ Resulted w Oc st' (tmOf act) blk blk' pbs rs vs
  | [], st, st', Oc, blk, rs, h, hr => by
    simp only [resultsOf, Option.some.injEq, Prod.mk.injEq] at hr
    obtain ⟨rfl, rfl⟩ := hr
    refine ⟨[], blk, fun _ _ => none, by simp, ⟨h.world (Nat.le_refl _) (fun _ _ _ => rfl) (fun k _ q => ?_), fun _ _ _ q => q, fun _ _ _ q => (by cases q), fun _ _ _ _ _ q => (by cases q), fun i o u q => (by simp at q), rfl, fun _ _ _ => rfl⟩⟩
    rcases q with q | ⟨_, _, q⟩
    · exact q
    · cases q
  | r :: rvs, st, st', Oc, blk, rs, h, hr => by
    simp only [resultsOf] at hr
    split at hr
    case h_2 => cases hr
    rename_i o st1 h1
    split at hr
    case h_2 => cases hr
    rename_i os st2 h2
    cases hr
    obtain ⟨u, blk1, pb, g1, g2, g3, g4⟩ := result_pend h h1
    obtain ⟨vs, blk2, pbs, m1, H⟩ := results_rep g2.base h2
    refine ⟨u :: vs, blk2, consBlk pb pbs, ?_, ⟨H.frame.world (Nat.le_refl _) (fun _ _ _ => rfl) (fun k _ q => ?_), fun t c k q => g3 _ _ _ (H.sub _ _ _ q), fun i c k q => ?_, fun i c i' c' k q q' => ?_, fun i o' u' q q' => ?_, by simp [H.len], fun i hi c => ?_⟩⟩
    · simp only [List.mapM_cons, Sem.run_bind, g1, Result.andThen_ok, m1]
      simp
    · rcases q with q | q
      · exact .inl (.inl q)
      · rcases (consBlk_has k).1 q with q | q
        · exact .inl (.inr q)
        · exact .inr q
    · cases i with
      | zero => exact g4 c k q
      | succ i =>
        obtain ⟨t, c', q'⟩ := H.from_ i c k q
        exact ⟨t, c', g3 _ _ _ q'⟩
    · have hno : ∀ c i c' k, pb c = some k → pbs i c' = some k → False := by
        intro c i c' k h1 h2
        obtain ⟨t, c2, q⟩ := H.from_ i c' k h2
        exact (g2.base.out _ _ _ q).1 (.inr ⟨c, h1⟩)
      cases i with
      | zero =>
        cases i' with
        | zero => exact ⟨rfl, g2.inj _ _ _ q q'⟩
        | succ i' => exact (hno _ _ _ _ q q').elim
      | succ i =>
        cases i' with
        | zero => exact (hno _ _ _ _ q' q).elim
        | succ i' =>
          obtain ⟨e1, e2⟩ := H.inj _ _ _ _ _ q q'
          exact ⟨by rw [e1], e2⟩
    · have hO : ∀ k, (blk2.off fun k => Oc k ∨ (consBlk pb pbs).has k) k → (blk2.off fun k => (Oc k ∨ ∃ c, pb c = some k) ∨ pbs.has k) k := by
        rintro k (q | q | q)
        · exact .inl q
        · exact .inr (.inl (.inl q))
        · rcases (consBlk_has k).1 q with q | q
          · exact .inr (.inl (.inr q))
          · exact .inr (.inr q)
      cases i with
      | zero =>
        simp at q q'
        subst q; subst q'
        have hrep : ORep w _ o u (pb none) (fun j => pb (some j)) := g2.rep
        refine hrep.move ⟨fun k _ hno => ⟨rfl, fun q => hno ?_⟩, fun _ _ => rfl⟩
        rcases hO k q with ⟨t, c, q⟩ | q | ⟨i, c, q⟩
        · exact .inl ⟨t, c, H.sub _ _ _ q⟩
        · exact .inr q
        · exact .inl (H.from_ i c k q)
      | succ i =>
        have := H.rep i o' u' (by simpa using q) (by simpa using q')
        exact this.move ⟨fun k _ hno => ⟨rfl, fun q => hno (hO k q)⟩, fun _ _ => rfl⟩
    · cases i with
      | zero => simp at hi
      | succ i => exact H.end_ i (by simpa using hi) c

theorem results_run {fn : Func} {act : Act} {vs : List Value} (h : (fn.results.toList.mapM (rvSem (tmOf act))).run P w = .ok vs w) :
    (results fn act.tmps).run P w = .ok (if h : vs.length = 1 then vs[0] else .tuple vs.toArray) w := by
  unfold results
  have e : (fn.results.mapM (rvSem (tmOf act)) : Sem (Array Value)) = List.toArray <$> fn.results.toList.mapM (rvSem (tmOf act)) := by
    have : fn.results = fn.results.toList.toArray := by simp
    rw [this, List.mapM_toArray]
  have e2 : ∀ f : ResultVar → Sem Value, (∀ r, f r = rvSem (tmOf act) r) → (do let vs ← fn.results.mapM f; pure (if h : vs.size = 1 then vs[0] else .tuple vs) : Sem Value) = (do let vs ← List.toArray <$> fn.results.toList.mapM (rvSem (tmOf act)); pure (if h : vs.size = 1 then vs[0] else .tuple vs)) := by
    intro f hf
    rw [funext hf, e]
  rw [e2 _ (fun r => by cases r <;> rfl)]
  rw [map_eq_pure_bind]
  simp only [Sem.run_bind, h, Result.andThen_ok, Sem.run_pure]
  simp
end
end Go.Ev

namespace Go.Ev

theorem least {p : Nat → Prop} (h : ∃ m, p m) : ∃ m, p m ∧ ∀ k, p k → m ≤ k := by
  obtain ⟨m, hm⟩ := h
  induction m using Nat.strongRecOn with
  | _ m ih =>
    by_cases hk : ∃ k, k < m ∧ p k
    · obtain ⟨k, h1, h2⟩ := hk
      exact ih k h1 h2
    · refine ⟨m, hm, fun k hp => ?_⟩
      rcases Nat.lt_or_ge k m with h' | h'
      · exact absurd ⟨k, h', hp⟩ hk
      · exact h'

def exitOf : Ex → Exit
  | .normal => .normal
  | .exit id => .exit id
  | .ret => .ret

section
variable {C : Ctx} {rec : Rec} {n : Nat} {lv : List (List Nat)} {w0 : World} {B : Nat → Prop} {N : Nat} {Oc K : Nat → Prop} {t0 : Nat → Value}

theorem Fr.keep {w : World} {st : Slots} {act : Act} (h : Fr w0 B N Oc K t0 w st act) (id : Option Nat) : Fr w0 B N Oc K t0 w (keepAt lv id st) act := by
  refine h.weaken fun t => ?_
  unfold keepAt
  split
  · split
    · rw [get_keep]
      split
      · exact .inl rfl
      · exact .inr rfl
    · exact .inl rfl
  · exact .inl rfl

theorem needB_some {α : Type} {c : Bool} {t : Option α} {x : α} (h : needB c t = some x) : c = true ∧ t = some x := by
  cases c with
  | true => exact ⟨rfl, h⟩
  | false => cases h

theorem fixC_same {st : Slots} {c : Operand} {P : Program} {a : Arg} {v : Bool} (hf : fetch P st 0 c = some a) (hb : a.bool = some v) : Same (fixC st c v) st := by
  cases c with
  | tmp t =>
    refine fix_same ?_
    have hsv : ∃ b, a.sv = .val (.bool b) ∧ b = v := by
      unfold Arg.bool at hb
      split at hb
      · rename_i b hsv; cases hb; exact ⟨_, hsv, rfl⟩
      · cases hb
    obtain ⟨b, hsv, rfl⟩ := hsv
    unfold fetch at hf
    dsimp only at hf
    split at hf
    · cases hf
    · rename_i v hg; cases hf; rw [hg]; exact hsv
    · rename_i sh hg; cases hf; cases hsv
    · rename_i o hn1 hn2 hg; cases hf; cases hsv
    · rename_i sh v hg; cases hf; cases hsv
    all_goals
      obtain ⟨o, _, rfl⟩ := rooted_eq hf
      cases hsv
  | _ => exact Same.refl _

theorem code_wp {α : Type} (hN : namesOk C.P = true) (hOc : ∀ k, Oc k → k < w0.heap.size) (hrec : ∀ g os rr, rec g os = some rr → CallSpec C.P g os rr.1 rr.2) {io : List Nat} (hK : ∀ t, K t → t ∈ io) :
    ∀ (c : Code) (st : Slots) (k : Ex → Slots → Option α) (x : α) (w : World) (act : Act) (Q : Exit → Act → World → Prop), evalK C rec n lv c st k = some x → dstsOk N io c = true → Fr w0 B N Oc K t0 w st act →
      (∀ e st' a w', k e st' = some x → Fr w0 B N Oc K t0 w' st' a → Q (exitOf e) a w') → c.wp C.P Q act w := by
  intro c
  induction c with
  | skip => intro st k x w act Q h _ hf hQ; exact wp_skip (hQ .normal st act w h hf)
  | label l => intro st k x w act Q h _ hf hQ; exact wp_label (hQ .normal st act w h hf)
  | region id ops draw =>
    intro st k x w act Q h hd hf hQ
    simp only [evalK] at h
    obtain ⟨st', fs, h1, h2⟩ := stepsK_some h
    have hds : ∀ o ∈ ops.toList, ∀ d, o.dst = some d → d < N ∧ ¬ K d := by
      intro o ho d hdd
      simp only [dstsOk] at hd
      have := List.all_eq_true.1 hd o ho
      rw [hdd] at this
      simp only [Bool.and_eq_true, Nat.blt_eq, Bool.not_eq_true'] at this
      refine ⟨this.1, fun hk => ?_⟩
      rw [(memN_iff d io).2 (hK d hk)] at this
      cases this.2
    cases draw with
    | false => exact region_wp hN hOc hrec h1 (fun e => by cases e) hds (hf.keep _) fun a w' hf' => hQ .normal st' a w' h2 hf'
    | true =>
      obtain ⟨h3, h4⟩ := needB_some h2
      obtain ⟨h5, h6⟩ := needB_some h4
      exact region_wp hN hOc hrec h1 (fun _ => ⟨h3, by simpa using h5⟩) hds (hf.keep _) fun a w' hf' => hQ .normal st' a w' h6 hf'
  | seq a b iha ihb =>
    intro st k x w act Q h hd hf hQ
    simp only [dstsOk, Bool.and_eq_true] at hd
    refine wp_seq (iha st _ x w act _ h hd.1 hf fun e st' a' w' he hf' => ?_)
    cases e with
    | normal => exact ihb st' k x w' a' Q he hd.2 hf' hQ
    | exit id => exact hQ (.exit id) st' a' w' he hf'
    | ret => exact hQ .ret st' a' w' he hf'
  | cond c a b iha ihb =>
    intro st k x w act Q h hd hf hQ
    simp only [dstsOk, Bool.and_eq_true] at hd
    simp only [evalK] at h
    split at h
    · rename_i g hg
      split at h
      · rename_i v hv
        obtain ⟨blk, hS, hB⟩ := hf.ex
        have hev := (fetch_rep hS hg act (fun _ => rfl)).bool hv
        cases v with
        | true => exact wp_cond_true hev (iha _ k x w act Q (by simpa [ifB] using h) hd.1 (hf.same (fixC_same hg hv)) hQ)
        | false => exact wp_cond_false hev (ihb _ k x w act Q (by simpa [ifB] using h) hd.2 (hf.same (fixC_same hg hv)) hQ)
      · cases h
    · cases h
  | block id c ih =>
    intro st k x w act Q h hd hf hQ
    refine wp_block (ih st _ x w act _ h hd hf fun e st' a' w' he hf' => ?_)
    cases e with
    | normal => exact hQ .normal st' a' w' he hf'
    | ret => exact hQ .ret st' a' w' he hf'
    | exit j =>
      simp only [exitOf, Exit.inBlock]
      dsimp only at he
      by_cases hj : j = id
      · subst hj
        rw [if_pos rfl]
        simp only [Nat.beq_refl] at he
        exact hQ .normal st' a' w' he hf'
      · rw [if_neg hj]
        rw [nbeq hj] at he
        exact hQ (.exit j) st' a' w' he hf'
  | loop c ih =>
    intro st k x w act Q h hd hf hQ
    classical
    simp only [evalK] at h
    let Inv : Nat → Act → World → Prop := fun m a w' => ∃ st', loopK (evalK C rec n lv c) (keepAt lv (firstRegion c)) k m st' = some x ∧ Fr w0 B N Oc K t0 w' st' a
    let μ : Act → World → Nat := fun a w' => if h : ∃ m, Inv m a w' then Classical.choose (least h) else 0
    refine wp_loop (fun a w' => ∃ m, Inv m a w') μ ⟨n, _, h, hf.keep _⟩ fun a w' hI => ?_
    have hμ : μ a w' = Classical.choose (least hI) := by simp only [μ]; rw [dif_pos hI]
    have hspec := (Classical.choose_spec (least hI)).1
    rw [← hμ] at hspec
    generalize hm : μ a w' = m at hspec ⊢
    obtain ⟨st', h1, h2⟩ := hspec
    cases m with
    | zero => cases h1
    | succ m =>
      refine ih st' _ x w' a _ h1 hd h2 fun e st2 a2 w2 he hf2 => ?_
      cases e with
      | normal =>
        have hI2 : Inv m a2 w2 := ⟨_, he, hf2.keep _⟩
        refine ⟨⟨m, hI2⟩, ?_⟩
        have hex : ∃ m, Inv m a2 w2 := ⟨m, hI2⟩
        have : μ a2 w2 = Classical.choose (least hex) := by simp only [μ]; rw [dif_pos hex]
        rw [this]
        have := (Classical.choose_spec (least hex)).2 m hI2
        omega
      | exit id => exact hQ (.exit id) st2 a2 w2 he hf2
      | ret => exact hQ .ret st2 a2 w2 he hf2
  | scope c ih =>
    intro st k x w act Q h hd hf hQ
    simp only [dstsOk] at hd
    refine wp_scope_straight (ih st k x w act _ h hd hf fun e st' a w' he hf' => ?_)
    have := hQ e st' a w' he hf'
    cases e <;> exact this
  | exit id => intro st k x w act Q h _ hf hQ; exact wp_exit (hQ (.exit id) st act w h hf)
  | ret => intro st k x w act Q h _ hf hQ; exact wp_ret (hQ .ret st act w h hf)
  | rangeFunc f ps a b _ _ => intro st k x w act Q h; simp [evalK] at h
  | goto l => intro st k x w act Q h; simp [evalK] at h
  | refuse s => intro st k x w act Q h; simp [evalK] at h
end

/-- Slots that are no homes are forgotten. -/
def homeOnly : SV → SV
  | .home o => .home o
  | _ => .dead

theorem outs_get : ∀ {ms : List Md} {st : Slots} {n i : Nat} {o : OV}, (outsOf st n ms)[i]? = some o → o ≠ .flat .gone → st.get (n + i) = .home o
  | [], _, _, _, _, h, _ => by simp [outsOf] at h
  | m :: ms, st, n, 0, o, h, hne => by
    cases m with
    | io k =>
      simp only [outsOf, List.getElem?_cons_zero, Option.some.injEq] at h
      split at h
      · rename_i o' ho; subst h; simpa using ho
      · exact absurd h.symm hne
    | ro => simp only [outsOf, List.getElem?_cons_zero, Option.some.injEq] at h; exact absurd h.symm hne
    | tk => simp only [outsOf, List.getElem?_cons_zero, Option.some.injEq] at h; exact absurd h.symm hne
  | m :: ms, st, n, i + 1, o, h, hne => by
    have : (outsOf st (n + 1) ms)[i]? = some o := by cases m <;> simpa [outsOf] using h
    have := outs_get this hne
    rw [show n + (i + 1) = n + 1 + i by omega]; exact this

theorem outs_io : ∀ {ms : List Md} {st : Slots} {n i : Nat} {o : OV}, (outsOf st n ms)[i]? = some o → o ≠ .flat .gone → n + i ∈ ioSlots n ms ∧ i < ms.length
  | [], _, _, _, _, h, _ => by simp [outsOf] at h
  | m :: ms, st, n, 0, o, h, hne => by
    cases m with
    | io k => exact ⟨by simp [ioSlots], by simp⟩
    | ro => simp only [outsOf, List.getElem?_cons_zero, Option.some.injEq] at h; exact absurd h.symm hne
    | tk => simp only [outsOf, List.getElem?_cons_zero, Option.some.injEq] at h; exact absurd h.symm hne
  | m :: ms, st, n, i + 1, o, h, hne => by
    have : (outsOf st (n + 1) ms)[i]? = some o := by cases m <;> simpa [outsOf] using h
    obtain ⟨h1, h2⟩ := outs_io this hne
    rw [show n + (i + 1) = n + 1 + i by omega]
    refine ⟨?_, by simp; omega⟩
    cases m <;> simp [ioSlots, h1]

theorem resultVal_list (vs : List Value) (f : Nat → Value) (hf : ∀ j (u : Value), vs[j]? = some u → f j = u) : (if h : vs.length = 1 then vs[0] else Value.tuple vs.toArray) = resultVal vs.length f := by
  match vs, hf with
  | [], _ => rfl
  | [v], hf => simp [resultVal, hf 0 v rfl]
  | v1 :: v2 :: vs, hf =>
    have : (List.range (v1 :: v2 :: vs).length).map f = v1 :: v2 :: vs := by
      apply List.ext_getElem?
      intro i
      by_cases hi : i < (v1 :: v2 :: vs).length
      · have h1 := List.getElem?_eq_getElem hi
        rw [List.getElem?_map, List.getElem?_range hi, h1, Option.map_some, hf i _ h1]
      · rw [List.getElem?_eq_none (by simpa using hi), List.getElem?_eq_none (by simpa using hi)]
    show _ = Value.tuple ((List.range (v1 :: v2 :: vs).length).map f).toArray
    rw [this]
    simp

section
variable {C : Ctx} {rec : Rec} {n : Nat}

/-- The results come into slots of their own. -/
theorem put_results {w : World} {Oc : Nat → Prop} {M : Nat} : ∀ (rs : List OV) (vs : List Value) (pbs : Blk) (st : Slots) (tm : Nat → Value) (blk : Blk) (d : Nat), SRel w (fun k => Oc k ∨ pbs.has k) st tm blk → vs.length = rs.length → (∀ t, (st.get t).root = none) → (∀ i c i' c' k, pbs i c = some k → pbs i' c' = some k → i = i' ∧ c = c') →
    (∀ i, rs.length ≤ i → ∀ c, pbs i c = none) → (∀ i c k, pbs i c = some k → ¬ Oc k ∧ k < w.heap.size) → (∀ (i : Nat) (o : OV) (u : Value), rs[i]? = some o → vs[i]? = some u → ORep w (blk.off fun k => Oc k ∨ pbs.has k) o u (pbs i none) (fun j => pbs i (some j))) → M ≤ d →
    ∃ st' tm' blk', SRel w Oc st' tm' blk' ∧ (∀ t, t < d → st'.get t = st.get t ∧ tm' t = tm t) ∧ (∀ (j : Nat) (o : OV), rs[j]? = some o → st'.get (d + j) = .home o) ∧ (∀ (j : Nat) (u : Value), vs[j]? = some u → tm' (d + j) = u) ∧ (∀ t c k, blk' t c = some k → (∃ t c, blk t c = some k) ∨ pbs.has k)
  | [], vs, pbs, st, tm, blk, d, h, hl, _, _, he, _, _, _ => by
    have : vs = [] := List.eq_nil_of_length_eq_zero (by simpa using hl)
    subst this
    refine ⟨st, tm, blk, h.world (Nat.le_refl _) (fun _ _ _ => rfl) (fun k _ q => .inl q), fun _ _ => ⟨rfl, rfl⟩, fun j o q => by simp at q, fun j u q => by simp at q, fun t c k q => .inl ⟨t, c, q⟩⟩
  | o :: rs, [], _, _, _, _, _, _, hl, _, _, _, _, _, _ => by simp at hl
  | o :: rs, u :: vs, pbs, st, tm, blk, d, h, hl, hr, hi, he, hout, hrep, hM => by
    let tl : Blk := fun i => pbs (i + 1)
    have hhas : ∀ k, pbs.has k ↔ (∃ c, pbs 0 c = some k) ∨ tl.has k := by
      intro k
      constructor
      · rintro ⟨i, c, q⟩
        cases i with
        | zero => exact .inl ⟨c, q⟩
        | succ i => exact .inr ⟨i, c, q⟩
      · rintro (⟨c, q⟩ | ⟨i, c, q⟩)
        · exact ⟨0, c, q⟩
        · exact ⟨i + 1, c, q⟩
    have hp : Pend w (fun k => Oc k ∨ tl.has k) st tm blk (.home o) u (pbs 0) := by
      refine ⟨h.world (Nat.le_refl _) (fun _ _ _ => rfl) (fun k _ q => ?_), fun c c' k q q' => (hi _ _ _ _ _ q q').2, fun c k q => ⟨?_, (hout _ _ _ q).2⟩, ?_⟩
      · rcases q with (q | q) | q
        · exact .inl q
        · exact .inr ((hhas k).2 (.inr q))
        · exact .inr ((hhas k).2 (.inl q))
      · rintro (q' | ⟨i, c', q'⟩)
        · exact (hout _ _ _ q).1 q'
        · have := (hi _ _ _ _ _ q q').1
          omega
      · have := hrep 0 o u rfl rfl
        refine ORep.move this ⟨fun k _ hno => ⟨rfl, ?_⟩, fun _ _ => rfl⟩
        rintro (q | (q | q) | q)
        · exact hno (.inl q)
        · exact hno (.inr (.inl q))
        · exact hno (.inr (.inr ((hhas k).2 (.inr q))))
        · exact hno (.inr (.inr ((hhas k).2 (.inl q))))
    have hput := hp.put d
    have hget : ∀ t, (st.put d (.home o)).get t = if t = d then .home o else st.get t := by
      intro t
      show (Edit.on ⟨d, .home o, .all⟩ st).get t = _
      rw [get_e]
      by_cases e : t = d
      · subst e; simp
      · rw [if_neg e, if_neg e, Cut.one_far]
        rw [hr t]; simp
    obtain ⟨st', tm', blk', g1, g2, g3, g4, g5⟩ := put_results (Oc := Oc) (M := M) rs vs tl (st.put d (.home o)) _ _ (d + 1) hput (by simpa using hl) (fun t => by rw [hget]; split; rfl; exact hr t) (fun i c i' c' k q q' => by
        obtain ⟨e1, e2⟩ := hi _ _ _ _ _ q q'
        exact ⟨by omega, e2⟩) (fun i hi' c => he (i + 1) (by simp; omega) c) (fun i c k q => hout _ _ _ q) (fun i o' u' q q' => by
        have := hrep (i + 1) o' u' (by simpa using q) (by simpa using q')
        refine ORep.move this ⟨fun k _ hno => ⟨rfl, ?_⟩, fun _ _ => rfl⟩
        rintro (⟨t, c, q⟩ | q | q)
        · by_cases ht : t = d
          · subst ht; rw [updN_same] at q; exact hno (.inr (.inr ⟨0, c, q⟩))
          · rw [updN_ne _ _ ht] at q; exact hno (.inl ⟨t, c, q⟩)
        · exact hno (.inr (.inl q))
        · exact hno (.inr (.inr ((hhas k).2 (.inr q))))) (by omega)
    refine ⟨st', tm', blk', g1, fun t ht => ?_, fun j o' q => ?_, fun j u' q => ?_, fun t c k q => ?_⟩
    · obtain ⟨e1, e2⟩ := g2 t (by omega)
      rw [e1, e2, hget, if_neg (by omega), updN_ne _ _ (by omega)]
      exact ⟨rfl, rfl⟩
    · cases j with
      | zero =>
        simp at q
        subst q
        rw [Nat.add_zero, (g2 d (by omega)).1, hget, if_pos rfl]
      | succ j =>
        rw [show d + (j + 1) = d + 1 + j by omega]
        exact g3 j o' (by simpa using q)
    · cases j with
      | zero =>
        simp at q
        subst q
        rw [Nat.add_zero, (g2 d (by omega)).2, updN_same]
      | succ j =>
        rw [show d + (j + 1) = d + 1 + j by omega]
        exact g4 j u' (by simpa using q)
    · rcases g5 t c k q with ⟨t', c', q⟩ | ⟨i, c', q⟩
      · by_cases ht : t' = d
        · subst ht; rw [updN_same] at q; exact .inr ⟨0, c', q⟩
        · rw [updN_ne _ _ ht] at q; exact .inl ⟨t', c', q⟩
      · exact .inr ⟨i + 1, c', q⟩

theorem body_spec (hN : namesOk C.P = true) (hrec : ∀ g os rr, rec g os = some rr → CallSpec C.P g os rr.1 rr.2) {f : FuncId} {os : List OV} {r : List OV × List OV} (h : callBody C rec n f os = some r) : CallSpec C.P f os r.1 r.2 := by
  unfold callBody at h
  split at h
  · cases h
  · rename_i fn hfn
    split at h
    · cases h
    · rename_i c hc
      split at h
      case h_2 => cases h
      rename_i hok
      simp only [Bool.and_eq_true, Nat.ble_eq] at hok
      intro w Oc us ab hul hOc hS
      refine calls_of_wp hfn hc ?_
      have htm : (fun t => (us.toArray ++ Array.replicate (fn.ntmps - us.toArray.size) Go.undef).getD t Go.undef) = fun t => us.getD t Go.undef := by
        funext t
        by_cases ht : t < us.length
        · simp [Array.getD, List.getD, ht, Array.getElem_append]
          intro _; omega
        · simp only [Array.getD, List.getD]
          rw [List.getElem?_eq_none (by omega)]
          split
          · rename_i h1
            simp at h1
            simp [Array.getElem_append, ht]
          · rfl
      have hFr : Fr w ab.has fn.ntmps Oc (fun t => t ∈ ioSlots 0 (C.mode f) ∧ t < us.length) (fun t => us.getD t Go.undef) w (startSlots 0 os) { tmps := us.toArray ++ Array.replicate (fn.ntmps - us.toArray.size) Go.undef, defers := [] } := by
        refine ⟨⟨ab, ?_, fun t c k q => .inl ⟨t, c, q⟩⟩, rfl, ?_, GrowB.refl _ _, ?_⟩
        · show SRel w Oc (startSlots 0 os) (fun t => (us.toArray ++ Array.replicate (fn.ntmps - us.toArray.size) Go.undef).getD t Go.undef) ab
          rw [htm]; exact hS
        · simp; omega
        · intro t _
          exact congrFun htm t
      refine code_wp hN hOc hrec (io := ioSlots 0 (C.mode f)) (fun t ht => ht.1) c _ _ r w _ _ h hok.1.1 hFr fun e st' a w' he hf' => ?_
      have key : ∀ rs st2, resultsOf C.P fn.results.toList st' = some (rs, st2) → r = (rs, outsOf st2 0 (C.mode f)) → a.defers = [] ∧ ∃ v, (results fn a.tmps).run C.P w' = .ok v w' ∧ ∃ v', Ending.returned v = .returned v' ∧ Grow w w' ab ∧ CallOut w w' Oc ab us r.1 r.2 v' := by
        intro rs st2 hr1 hr2
        refine ⟨hf'.defers, ?_⟩
        obtain ⟨blk, hS', hB⟩ := hf'.ex
        obtain ⟨vs, blk2, pbs, m1, H⟩ := results_rep (act := a) hS' hr1
        have hrun := results_run (act := a) m1
        refine ⟨_, hrun, _, rfl, ⟨hf'.grow.os, hf'.grow.tape, hf'.grow.output, hf'.grow.size, fun k hk hno => hf'.grow.same k hk hno⟩, ?_⟩
        -- a frame with the arguments that may be changed, and the results
        let M := us.length
        let stH : Slots := (st2.mapv homeOnly).keep (List.range M)
        have hgetH : ∀ t, stH.get t = if t < M then homeOnly (st2.get t) else .dead := by
          intro t
          show ((st2.mapv homeOnly).keep (List.range M)).get t = _
          rw [get_keep, get_mapv _ rfl]
          simp only [List.mem_range]
        obtain ⟨blkH, k1, k2, k3⟩ := H.frame.weaken (st' := stH) (fun t => by
          rw [hgetH]
          split
          · cases st2.get t with
            | home o => exact .inl rfl
            | _ => exact .inr rfl
          · exact .inr rfl)
        have hpo : ∀ i c k, pbs i c = some k → ¬ Oc k ∧ k < w'.heap.size := by
          intro i c k q
          obtain ⟨t, c', q'⟩ := H.from_ i c k q
          exact hS'.out _ _ _ q'
        obtain ⟨st3, tm3, blk3, p1, p2, p3, p4, p5⟩ := put_results (Oc := Oc) (M := M) rs vs pbs stH (tmOf a) blkH M k1 H.len (fun t => by
            rw [hgetH]
            split
            · cases st2.get t <;> rfl
            · rfl) H.inj H.end_ hpo (fun i o u q q' => (H.rep i o u q q').move ⟨fun k _ hno => ⟨rfl, fun q => hno (by
              rcases q with ⟨t, c, q⟩ | q
              · exact .inl ⟨t, c, k2 _ _ _ q⟩
              · exact .inr q)⟩, fun _ _ => rfl⟩) (Nat.le_refl _)
        have hfrom : ∀ k, blk.has k → ab.has k ∨ w.heap.size ≤ k := by
          rintro k ⟨t, c, q⟩
          exact hB t c k q
        rw [hr2]
        refine ⟨⟨M, st3, tm3, blk3, p1, fun t c k q => ?_, Nat.le_refl _, fun i o q hne => ?_, fun j o q => p3 j o q, ?_⟩⟩
        · rcases p5 t c k q with ⟨t', c', q⟩ | ⟨i, c', q⟩
          · exact hfrom k ⟨_, _, H.sub _ _ _ (k2 _ _ _ q)⟩
          · exact hfrom k (H.from_ _ _ _ q)
        · have hg := outs_get q hne
          rw [Nat.zero_add] at hg
          obtain ⟨hio, hlt⟩ := outs_io q hne
          rw [Nat.zero_add] at hio
          have hlu : i < us.length := by omega
          obtain ⟨e1, e2⟩ := p2 i hlu
          refine ⟨?_, ?_, hlu⟩
          · rw [e1, hgetH, if_pos hlu, hg]; rfl
          · rw [e2]; exact hf'.kept i ⟨hio, hlu⟩
        · rw [← H.len]
          exact resultVal_list vs _ fun j u q => p4 j u q
      cases e with
      | normal =>
        simp only [finish] at he
        split at he
        · rename_i rs st2 hr
          cases he
          exact key rs st2 hr rfl
        · cases he
      | ret =>
        simp only [finish] at he
        split at he
        · rename_i rs st2 hr
          cases he
          exact key rs st2 hr rfl
        · cases he
      | exit id => simp [finish] at he

theorem CallOut.freeze1 {w w' : World} {Oc : Nat → Prop} {ab : Blk} {us : List Value} {pre rest outs : List OV} {o : OV} {pv : PV} {v : Value} (h : CallOut w w' Oc ab us (pre ++ o :: rest) outs v) (hv : o.pv = some pv) : CallOut w w' Oc ab us (pre ++ .flat (.val pv) :: rest) outs v := by
  obtain ⟨N, st, tm, ob, k1, k2, k3, k4, k5, k6⟩ := h.ex
  have hg : st.get (N + pre.length) = .home o := k5 _ _ (by simp)
  obtain ⟨blk', f1, f2, f3⟩ := freeze_place (e := ⟨N + pre.length, .home (.flat (.val pv)), .all⟩) k1 hg (c := none) (x := o) rfl hv rfl
  have hget : ∀ t o', t ≠ N + pre.length → st.get t = .home o' → ((⟨N + pre.length, .home (.flat (.val pv)), .all⟩ : Edit).on st).get t = .home o' := by
    intro t o' ht hgt
    rw [get_edit, if_neg ht]
    show ((Cut.all).on (N + pre.length) st).get t = .home o'
    rw [get_cut, hgt]
    rfl
  refine ⟨⟨N, _, tm, blk', f1, fun t c k hk => k2 t c k (f2 t c k hk).1, k3, fun i o' hi ho => ?_, fun j o' hj => ?_, by simpa using k6⟩⟩
  · obtain ⟨g1, g2, g3⟩ := k4 i o' hi ho
    exact ⟨hget i o' (by omega) g1, g2, g3⟩
  · by_cases hjp : j = pre.length
    · subst hjp
      simp at hj
      subst hj
      rw [get_edit, if_pos rfl]
    · refine hget _ _ (by omega) (k5 j o' ?_)
      rcases Nat.lt_or_gt_of_ne hjp with hlt | hgt
      · rw [List.getElem?_append_left hlt] at hj ⊢
        exact hj
      · rw [List.getElem?_append_right (by omega)] at hj ⊢
        have : j - pre.length = (j - pre.length - 1) + 1 := by omega
        rw [this] at hj ⊢
        simpa using hj
theorem CallOut.freeze {w w' : World} {Oc : Nat → Prop} {ab : Blk} {us : List Value} {outs : List OV} {v : Value} : ∀ (bs : List Bool) (pre rs : List OV), CallOut w w' Oc ab us (pre ++ rs) outs v → CallOut w w' Oc ab us (pre ++ frzR bs rs) outs v
  | true :: bs, pre, o :: rs, h => by
    simp only [frzR]
    have step : ∀ o', CallOut w w' Oc ab us (pre ++ o' :: rs) outs v → CallOut w w' Oc ab us (pre ++ o' :: frzR bs rs) outs v := fun o' h' => by
      have := CallOut.freeze bs (pre ++ [o']) rs (by simpa using h')
      simpa using this
    split
    · rename_i pv hp
      exact step _ (h.freeze1 hp)
    · exact step _ h
  | false :: bs, pre, o :: rs, h => by
    simp only [frzR]
    have := CallOut.freeze bs (pre ++ [o]) rs (by simpa using h)
    simpa using this
  | [], pre, rs, h => by
    cases rs <;> exact h
  | b :: bs, pre, [], h => by
    cases b <;> exact h
theorem CallSpec.freeze {P : Program} {f : FuncId} {os rs outs : List OV} (h : CallSpec P f os rs outs) (bs : List Bool) : CallSpec P f os (frzR bs rs) outs := by
  intro w Oc us ab h1 h2 h3
  refine (h w Oc us ab h1 h2 h3).mono fun e w' ⟨v, e1, e2, e3⟩ => ⟨v, e1, e2, ?_⟩
  exact CallOut.freeze bs [] rs e3

/-- Every call that the evaluator answers comes to that on the machine. -/
theorem pcall_spec (hN : namesOk C.P = true) (hprim : ∀ g p os rr, C.prim g = some p → p os = some rr → CallSpec C.P g os rr.1 rr.2) : ∀ (n : Nat) (f : FuncId) (os : List OV) (r : List OV × List OV), pcall C n f os = some r → CallSpec C.P f os r.1 r.2
  | 0, _, _, _, h => by cases h
  | n + 1, f, os, r, h => by
    simp only [pcall] at h
    split at h
    · rename_i p hp; exact hprim f p os r hp h
    · generalize hb : callBody C (pcall C n) n f os = b at h
      cases b with
      | none => cases h
      | some rr =>
        cases h
        exact (body_spec hN (pcall_spec hN hprim n) hb).freeze _
end
end Go.Ev

namespace Go.Ev

mutual
/-- How many values and letters pure data holds. -/
def pvBulk : PV → Nat
  | .str s => s.length + 1
  | .sl _ xs => pvBulks xs + 1
  | .agg cs => pvBulks cs
  | .ptr _ v => pvBulk v + 1
  | _ => 1
def pvBulks : List PV → Nat
  | [] => 0
  | x :: r => pvBulk x + pvBulks r
end
mutual
def dBulk {H : Type} : DataW H → Nat
  | .lit (.string bytes) => bytes.length + 1
  | .lit _ => 1
  | .nil => 1
  | .ptr d => dBulk d + 1
  | .slice elems spare => dBulks elems + dBulks spare + 1
  | .agg parts => dBulks parts + 1
  | .iface _ d => dBulk d + 1
  | .map entries => dBulkEs entries + 1
  | .held _ => 1
def dBulks {H : Type} : List (DataW H) → Nat
  | [] => 0
  | d :: r => dBulk d + dBulks r
def dBulkEs {H : Type} : List (Lit × DataW H) → Nat
  | [] => 0
  | x :: r => dBulkE x + dBulkEs r
def dBulkE {H : Type} : Lit × DataW H → Nat
  | (.string bytes, d) => bytes.length + dBulk d + 1
  | (_, d) => dBulk d + 1
end

theorem pvBulks_append (a b : List PV) : pvBulks (a ++ b) = pvBulks a + pvBulks b := by
  induction a with
  | nil => simp [pvBulks]
  | cons x a ih => simp [pvBulks, ih]; omega
theorem pvBulk_cell {v : PV} (h : isCell v = true) : v.cells = [v] := cells_of_isCell h
theorem pvBulks_cells (v : PV) : pvBulks v.cells = pvBulk v := by
  cases v <;> simp [PV.cells, pvBulks, pvBulk]

/-- Cells of a value of this type. -/
def TypedC (P : Program) : Nat → TypeId → List PV → Prop
  | 0, _, _ => False
  | d + 1, t, cs => match P.underlying t with
    | some .bool => ∃ b, cs = [.bool b]
    | some (.int k) => ∃ n, cs = [.int k n] ∧ (Lit.int k n).wf = true
    | some .string => ∃ s, cs = [.str s] ∧ s.length ≤ maxLen
    | some (.slice e) => ∃ sh xs, cs = [.sl sh xs] ∧ tShape P e = some sh ∧ xs.length ≤ maxLen ∧ ∀ x ∈ xs, pvFits sh x = true ∧ TypedC P d e x.cells
    | some (.pointer e) => cs = [.nilp] ∨ ∃ sh x, cs = [.ptr sh x] ∧ tShape P e = some sh ∧ pvFits sh x = true ∧ TypedC P d e x.cells
    | some (.struct fs) => cs.length = P.cellsOf t ∧ ∀ f ∈ fs.toList, TypedC P d f.type ((cs.drop f.offset).take (P.cellsOf f.type))
    | _ => False
def Typed (P : Program) (t : TypeId) (v : PV) : Prop := ∃ d sh, tShape P t = some sh ∧ pvFits sh v = true ∧ TypedC P d t v.cells
inductive TypedAll (P : Program) : List TypeId → List PV → Prop
  | nil : TypedAll P [] []
  | cons (t : TypeId) (v : PV) (ts : List TypeId) (vs : List PV) (h : Typed P t v) (hr : TypedAll P ts vs) : TypedAll P (t :: ts) (v :: vs)

/-- Types that are read: closed, each of one of these kinds. -/
def goodT (P : Program) (T : List TypeId) : Bool := T.all fun t => (match P.underlying t with
  | some .bool => true
  | some (.int _) => true
  | some .string => true
  | some (.slice e) => memN e T && Nat.blt 0 (P.cellsOf e)
  | some (.pointer e) => memN e T
  | some (.struct fs) => fs.toList.all fun f => memN f.type T
  | _ => false) && (tShape P t).isSome && Nat.blt t P.types.size

section
variable {H : Type} {enc : TypeId × Value → H} {P : Program} {w : World}

theorem cells?_spec {a : Addr} {n : Nat} {cs : List Value} (h : w.cells? 0 a n = some cs) : cs.length = n ∧ ∀ j, j < n → ∀ u, cs[j]? = some u → w.cell? (a.add j) = some u := by
  unfold World.cells? at h
  rw [if_pos (Nat.zero_le _)] at h
  have hl := mapM_some_length h
  simp at hl
  refine ⟨hl, fun j hj u hu => ?_⟩
  have := mapM_some_get h j j (by simp [hj])
  rw [this]; exact hu

theorem shN_cellsOf {t : TypeId} {sh : Option Nat} (h : tShape P t = some sh) : shN sh = P.cellsOf t := by
  obtain ⟨i, hi, hs⟩ := tShape_size h
  simp [Program.cellsOf, hi, hs]

theorem shape_struct {t : TypeId} {fs : Array Field} {sh : Option Nat} (hu : P.underlying t = some (.struct fs)) (h : tShape P t = some sh) : ∃ n, sh = some n := by
  unfold tShape at h
  rw [hu] at h
  cases hi : P.info? t with
  | none => rw [hi] at h; cases h
  | some i => rw [hi] at h; exact ⟨i.size, (Option.some.inj h).symm⟩
theorem shape_one {t : TypeId} {d : TypeDesc} {sh : Option Nat} (hu : P.underlying t = some d) (hs : ∀ fs, d ≠ .struct fs) (ha : ∀ n e, d ≠ .array n e) (h : tShape P t = some sh) : sh = none := by
  unfold tShape at h
  rw [hu] at h
  split at h
  · rename_i fs _ _; exact absurd (by simp_all) (hs fs)
  · rename_i n e _ _; exact absurd (by simp_all) (ha n e)
  · split at h <;> simp_all
  · cases h

/-- What cells say. -/
structure RepCells (w : World) (pcs : List PV) (cs : List Value) : Prop where
  len : pcs.length = cs.length
  cell : ∀ (j : Nat) (y : PV), pcs[j]? = some y → isCell y = true ∧ ∃ u, cs[j]? = some u ∧ RepV w (fun _ => False) y u
theorem RepCells.one {y : PV} {u : Value} (hc : isCell y = true) (h : RepV w (fun _ => False) y u) : RepCells w [y] [u] :=
  ⟨rfl, fun j z hj => by
    cases j with
    | zero => simp at hj; subst hj; exact ⟨hc, u, rfl, h⟩
    | succ j => simp at hj⟩

/-- A value of a shape out of its cells. -/
def ofCells (sh : Option Nat) (pcs : List PV) : PV := match sh with
  | none => pcs.headD .undef
  | some _ => .agg pcs
theorem ofCells_fits {sh : Option Nat} {pcs : List PV} (hl : pcs.length = shN sh) (hc : ∀ (j : Nat) (y : PV), pcs[j]? = some y → isCell y = true) : pvFits sh (ofCells sh pcs) = true ∧ (ofCells sh pcs).cells = pcs := by
  cases sh with
  | none =>
    match pcs, hl with
    | [y], _ =>
      have := hc 0 y rfl
      exact ⟨this, cells_of_isCell this⟩
  | some n =>
    have hl : pcs.length = n := hl
    exact ⟨by simp [ofCells, pvFits, hl], rfl⟩

theorem flatten_part (ps : List (List PV)) (sz : Nat → Nat) (hs : ∀ (i : Nat) (p : List PV), ps[i]? = some p → p.length = sz i) (i : Nat) (p : List PV) (hi : ps[i]? = some p) :
    (ps.flatten.drop ((ps.take i).map List.length).sum).take p.length = p := by
  induction ps generalizing i sz with
  | nil => simp at hi
  | cons q ps ih =>
    cases i with
    | zero => simp at hi; subst hi; simp
    | succ i =>
      simp only [List.take_succ_cons, List.map_cons, List.sum_cons, List.flatten_cons]
      rw [List.drop_append, List.drop_eq_nil_of_le (by omega), Nat.add_sub_cancel_left, List.nil_append]
      exact ih (fun i => sz (i + 1)) (fun i p hp => hs (i + 1) p (by simpa using hp)) i (by simpa using hi)

theorem pieces {α β : Type} (Q : Nat → α → β → Prop) : ∀ (l : List α) (n : Nat), (∀ (i : Nat) (x : α), l[i]? = some x → ∃ y, Q (n + i) x y) → ∃ ys : List β, ys.length = l.length ∧ ∀ (i : Nat) (x : α) (y : β), l[i]? = some x → ys[i]? = some y → Q (n + i) x y
  | [], _, _ => ⟨[], rfl, fun i x y h => by simp at h⟩
  | x :: l, n, h => by
    obtain ⟨y, hy⟩ := h 0 x rfl
    obtain ⟨ys, h1, h2⟩ := pieces Q l (n + 1) (fun i z hz => by
      obtain ⟨y, hy⟩ := h (i + 1) z (by simpa using hz)
      exact ⟨y, by rw [show n + 1 + i = n + (i + 1) by omega]; exact hy⟩)
    refine ⟨y :: ys, by simp [h1], fun i a b ha hb => ?_⟩
    cases i with
    | zero => simp at ha hb; subst ha; subst hb; exact hy
    | succ i =>
      have := h2 i a b (by simpa using ha) (by simpa using hb)
      rw [show n + (i + 1) = n + 1 + i by omega]; exact this

theorem dBulks_le {ys : List (List PV)} {xs : List (DataW H)} (hl : ys.length = xs.length) (h : ∀ (i : Nat) (y : List PV) (x : DataW H), ys[i]? = some y → xs[i]? = some x → pvBulks y ≤ dBulk x) : pvBulks ys.flatten ≤ dBulks xs := by
  induction ys generalizing xs with
  | nil => simp [pvBulks]
  | cons y ys ih =>
    cases xs with
    | nil => simp at hl
    | cons x xs =>
      have h0 := h 0 y x rfl rfl
      have := ih (xs := xs) (by simpa using hl) fun i a b ha hb => h (i + 1) a b (by simpa using ha) (by simpa using hb)
      simp only [List.flatten_cons, pvBulks_append, dBulks]
      omega
theorem sum_map_len {fs : List Field} {ys : List (List PV)} (hl : ys.length = fs.length) (h : ∀ (i : Nat) (f : Field) (y : List PV), fs[i]? = some f → ys[i]? = some y → y.length = P.cellsOf f.type) (j : Nat) :
    ((ys.take j).map List.length).sum = ((fs.take j).map fun f => P.cellsOf f.type).sum := by
  induction ys generalizing fs j with
  | nil => cases fs with | nil => simp | cons => simp at hl
  | cons y ys ih =>
    cases fs with
    | nil => simp at hl
    | cons f fs =>
      cases j with
      | zero => simp
      | succ j =>
        have h0 := h 0 f y rfl rfl
        have := ih (fs := fs) (by simpa using hl) (fun i a b ha hb => h (i + 1) a b (by simpa using ha) (by simpa using hb)) j
        simp only [List.take_succ_cons, List.map_cons, List.sum_cons, h0, this]

theorem trod_rep {T : List TypeId} (hT : goodT P T = true) (K : Kids P (fun t => t ∈ T)) : ∀ (n : Nat) (t : TypeId) (cs : List Value) (x : DataW H × List MemPlace), t ∈ T → DataW.trod enc P w 0 (fun _ => true) true n t cs = some x →
    ∃ pcs, TypedC P n t pcs ∧ RepCells w pcs cs ∧ pvBulks pcs ≤ dBulk x.1 := by
  intro n
  induction n with
  | zero => intro t cs x _ h; simp [DataW.trod] at h
  | succ n ih =>
    intro t cs x ht h
    have hg := List.all_eq_true.1 hT t ht
    simp only [Bool.and_eq_true] at hg
    obtain ⟨⟨hg, hsh⟩, _⟩ := hg
    have good : ∀ e, e ∈ T → ∃ sh, tShape P e = some sh := fun e he => by
      have := List.all_eq_true.1 hT e he
      simp only [Bool.and_eq_true] at this
      exact Option.isSome_iff_exists.1 this.1.2
    -- what stands at an address
    have atAddr : ∀ (e : TypeId) (a : Addr) (sh : Option Nat) (cs' : List Value) (y : DataW H × List MemPlace), e ∈ T → tShape P e = some sh → w.cells? 0 a (P.cellsOf e) = some cs' → DataW.trod enc P w 0 (fun _ => true) true n e cs' = some y →
        ∃ v, pvFits sh v = true ∧ TypedC P n e v.cells ∧ pvBulk v ≤ dBulk y.1 ∧ (∀ (j : Nat) (z : PV), v.cells[j]? = some z → isCell z = true ∧ ∃ u, w.cell? (a.add j) = some u ∧ RepV w (fun _ => False) z u) := by
      intro e a sh cs' y he hs hc hy
      obtain ⟨pcs, h1, h2, h3⟩ := ih e cs' y he hy
      obtain ⟨l1, l2⟩ := cells?_spec hc
      have hl : pcs.length = shN sh := by rw [h2.len, l1, shN_cellsOf hs]
      obtain ⟨f1, f2⟩ := ofCells_fits hl (fun j z hz => (h2.cell j z hz).1)
      refine ⟨ofCells sh pcs, f1, by rw [f2]; exact h1, by rw [← pvBulks_cells, f2]; exact h3, fun j z hz => ?_⟩
      rw [f2] at hz
      obtain ⟨c1, u, c2, c3⟩ := h2.cell j z hz
      have hj := (List.getElem?_eq_some_iff.1 hz).1
      exact ⟨c1, u, l2 j (by rw [h2.len, l1] at hj; exact hj) u c2, c3⟩
    have hstep := h
    cases hu : P.underlying t with
    | none => rw [hu] at hg; simp at hg
    | some desc =>
      rw [hu] at hg
      cases desc with
      | bool =>
        obtain ⟨b, rfl, rfl⟩ := DataW.trod_bool hu h
        exact ⟨[.bool b], by unfold TypedC; rw [hu]; exact ⟨b, rfl⟩, .one rfl (.bool b), by simp [pvBulks, pvBulk, dBulk]⟩
      | int k =>
        obtain ⟨m, rfl, rfl, hwf⟩ := DataW.trod_int hu h
        exact ⟨[.int k m], by unfold TypedC; rw [hu]; exact ⟨m, rfl, hwf⟩, .one rfl (.int k m), by simp [pvBulks, pvBulk, dBulk]⟩
      | string =>
        obtain ⟨s, rfl, rfl, hmax⟩ := DataW.trod_string hu h
        exact ⟨[.str s.data.toList], by unfold TypedC; rw [hu]; exact ⟨_, rfl, by simpa using hmax⟩, .one rfl (.str s), by simp [pvBulks, pvBulk, dBulk]⟩
      | slice e =>
        simp only [Bool.and_eq_true] at hg
        have he : e ∈ T := (memN_iff _ _).1 hg.1
        obtain ⟨sh, hs⟩ := good e he
        rcases DataW.trod_slice hu h with ⟨rfl, rfl⟩ | ⟨a, len, cap, elems, rest, m, hm, rfl, rfl, _, hlc, hcm, hel, helem, _, _⟩
        · refine ⟨[.sl sh []], ?_, .one rfl (.slNil sh), by simp [pvBulks, pvBulk, dBulk]⟩
          unfold TypedC
          rw [hu]
          exact ⟨sh, [], rfl, hs, Nat.zero_le _, fun x hx => by cases hx⟩
        · cases hm
          obtain ⟨vs, v1, v2⟩ := pieces (fun i (y : DataW H × List MemPlace) (v : PV) => pvFits sh v = true ∧ TypedC P n e v.cells ∧ pvBulk v ≤ dBulk y.1 ∧ ∀ (j : Nat) (z : PV), v.cells[j]? = some z → isCell z = true ∧ ∃ u, w.cell? ((a.add (i * P.cellsOf e)).add j) = some u ∧ RepV w (fun _ => False) z u) elems 0 (fun i y hy => by
            have hi := (List.getElem?_eq_some_iff.1 hy).1
            have := helem i (by omega)
            rw [hy, Option.bind_eq_some_iff] at this
            obtain ⟨cs', hc1, hc2⟩ := this
            rw [Nat.zero_add]
            exact atAddr e _ sh cs' y he hs hc1 hc2)
          have hvl : vs.length = len := by omega
          have hget : ∀ (i : Nat) (v : PV), vs[i]? = some v → ∃ y, elems[i]? = some y := fun i v hv => by
            have hi := (List.getElem?_eq_some_iff.1 hv).1
            exact ⟨elems[i]'(by omega), List.getElem?_eq_getElem _⟩
          refine ⟨[.sl sh vs], ?_, .one rfl ?_, ?_⟩
          · unfold TypedC
            rw [hu]
            refine ⟨sh, vs, rfl, hs, by omega, fun v hv => ?_⟩
            obtain ⟨i, hi, rfl⟩ := List.mem_iff_getElem.1 hv
            obtain ⟨y, hy⟩ := hget i _ (List.getElem?_eq_getElem hi)
            have := v2 i y _ hy (List.getElem?_eq_getElem hi)
            exact ⟨this.1, this.2.1⟩
          · rw [← hvl]
            have hcc := shN_cellsOf (P := P) hs
            have key : ∀ (i : Nat) (v : PV) (j : Nat) (z : PV), vs[i]? = some v → v.cells[j]? = some z → isCell z = true ∧ ∃ u, w.cell? (a.add (i * shN sh + j)) = some u ∧ RepV w (fun _ => False) z u := by
              intro i v j z hv hz
              obtain ⟨y, hy⟩ := hget i v hv
              obtain ⟨c1, u, c2, c3⟩ := (v2 i y v hy hv).2.2.2 j z hz
              rw [Nat.zero_add, ← hcc, add_add] at c2
              exact ⟨c1, u, c2, c3⟩
            refine .sl sh vs a cap (fun i j => (w.cell? (a.add (i * shN sh + j))).getD Go.undef) (by omega) (fun i v hv => ?_) (fun i v j z hv hz => (key i v j z hv hz).1) (fun _ _ _ _ _ _ q => q) (fun i v j z hv hz => ?_) (fun i v j z hv hz => ?_)
            · obtain ⟨y, hy⟩ := hget i v hv
              exact (v2 i y v hy hv).1
            · obtain ⟨_, u, c2, _⟩ := key i v j z hv hz
              rw [c2]; rfl
            · obtain ⟨_, u, c2, c3⟩ := key i v j z hv hz
              rw [c2]; exact c3
          · have hb : pvBulks vs ≤ dBulks (elems.map (·.1)) := by
              have : ∀ (vs : List PV) (es : List (DataW H × List MemPlace)), vs.length = es.length → (∀ (i : Nat) (y : DataW H × List MemPlace) (v : PV), es[i]? = some y → vs[i]? = some v → pvBulk v ≤ dBulk y.1) → pvBulks vs ≤ dBulks (es.map (·.1)) := by
                intro vs
                induction vs with
                | nil => intro es _ _; simp [pvBulks]
                | cons v vs ih2 =>
                  intro es hl hh
                  cases es with
                  | nil => simp at hl
                  | cons y es =>
                    have h0 := hh 0 y v rfl rfl
                    have := ih2 es (by simpa using hl) fun i a b ha hb => hh (i + 1) a b (by simpa using ha) (by simpa using hb)
                    simp only [pvBulks, List.map_cons, dBulks]
                    omega
              exact this vs elems v1 fun i y v hy hv => (v2 i y v hy hv).2.2.1
            simp only [pvBulks, pvBulk, dBulk]
            omega
      | pointer e =>
        have he : e ∈ T := (memN_iff _ _).1 hg
        obtain ⟨sh, hs⟩ := good e he
        rcases DataW.trod_pointer hu h with ⟨rfl, rfl⟩ | ⟨a, cs', y, m, hm, rfl, rfl, hc, hy⟩
        · exact ⟨[.nilp], by unfold TypedC; rw [hu]; exact .inl rfl, .one rfl .nilp, by simp [pvBulks, pvBulk, dBulk]⟩
        · cases hm
          obtain ⟨v, h1, h2, h3, h4⟩ := atAddr e a sh cs' y he hs hc hy
          refine ⟨[.ptr sh v], by unfold TypedC; rw [hu]; exact .inr ⟨sh, v, rfl, hs, h1, h2⟩, .one rfl ?_, by simp only [pvBulks, pvBulk, dBulk]; omega⟩
          refine .ptr sh v a (fun j => (w.cell? (a.add j)).getD Go.undef) h1 (fun j z hz => (h4 j z hz).1) (fun _ _ _ q => q) (fun j z hz => ?_) (fun j z hz => ?_)
          · obtain ⟨_, u, c2, _⟩ := h4 j z hz
            rw [c2]; rfl
          · obtain ⟨_, u, c2, c3⟩ := h4 j z hz
            rw [c2]; exact c3
      | struct fs =>
        simp only [List.all_eq_true] at hg
        obtain ⟨xs, m, hm, rfl, hl, hxl, hf⟩ := DataW.trod_struct hu h
        cases hm
        obtain ⟨_, ksum, koff⟩ := K.struct ht hu
        obtain ⟨ys, y1, y2⟩ := pieces (fun i (f : Field) (pcs : List PV) => TypedC P n f.type pcs ∧ RepCells w pcs ((cs.drop f.offset).take (P.cellsOf f.type)) ∧ ∀ x, xs[i]? = some x → pvBulks pcs ≤ dBulk x.1) fs.toList 0 (fun i f hif => by
          have hi : i < xs.length := by rw [hxl]; simpa using (List.getElem?_eq_some_iff.1 hif).1
          have hfi : fs[i]? = some f := by simpa using hif
          have hx := hf i f hfi
          rw [List.getElem?_eq_getElem hi] at hx
          obtain ⟨pcs, p1, p2, p3⟩ := ih f.type _ _ ((memN_iff _ _).1 (hg f (List.mem_of_getElem? hif))) hx
          refine ⟨pcs, p1, p2, fun x hx' => ?_⟩
          rw [Nat.zero_add, List.getElem?_eq_getElem hi] at hx'
          cases hx'
          exact p3)
        have hfl : fs.toList.length = fs.size := by simp
        have hoffs : ∀ (i : Nat) (f : Field), fs.toList[i]? = some f → f.offset + P.cellsOf f.type ≤ cs.length := by
          intro i f hif
          rw [hl, ksum, koff i f hif]
          have hi := (List.getElem?_eq_some_iff.1 hif).1
          have h1 := List.take_append_drop (i + 1) (fs.toList.map fun f => P.cellsOf f.type)
          have h2 : (fs.toList.map fun f => P.cellsOf f.type).take (i + 1) = (fs.toList.map fun f => P.cellsOf f.type).take i ++ [P.cellsOf f.type] := by
            rw [List.take_succ_eq_append_getElem (by simpa using hi)]
            simp [(List.getElem?_eq_some_iff.1 hif).2]
          have h3 := congrArg List.sum h1
          rw [List.sum_append, h2, List.sum_append] at h3
          simp only [List.sum_cons, List.sum_nil] at h3
          rw [← List.map_take] at h3
          omega
        have hylen : ∀ (i : Nat) (f : Field) (y : List PV), fs.toList[i]? = some f → ys[i]? = some y → y.length = P.cellsOf f.type := by
          intro i f y hif hiy
          have := (y2 i f y hif hiy).2.1.len
          rw [this, List.length_take, List.length_drop]
          have := hoffs i f hif
          omega
        have hsum := fun j => sum_map_len (P := P) y1 hylen j
        have hpart : ∀ (i : Nat) (f : Field) (y : List PV), fs.toList[i]? = some f → ys[i]? = some y → (ys.flatten.drop f.offset).take (P.cellsOf f.type) = y := by
          intro i f y hif hiy
          have := flatten_part ys (fun i => ((ys[i]?).getD []).length) (fun i p hp => by simp [hp]) i y hiy
          rw [hsum i, ← koff i f hif, hylen i f y hif hiy] at this
          exact this
        have htot : ys.flatten.length = cs.length := by
          have := hsum ys.length
          rw [List.take_length] at this
          rw [List.length_flatten, this, y1, List.take_length, hl, ksum]
        refine ⟨ys.flatten, ?_, ⟨htot, fun j z hz => ?_⟩, ?_⟩
        · unfold TypedC
          rw [hu]
          refine ⟨by rw [htot, hl], fun f hfm => ?_⟩
          obtain ⟨i, hi, rfl⟩ := List.mem_iff_getElem.1 hfm
          have hif : fs.toList[i]? = some fs.toList[i] := List.getElem?_eq_getElem hi
          have hiy : ys[i]? = some (ys[i]'(by omega)) := List.getElem?_eq_getElem _
          rw [hpart i _ _ hif hiy]
          exact (y2 i _ _ hif hiy).1
        · -- the cell lies in one of the fields
          have hj := (List.getElem?_eq_some_iff.1 hz).1
          have loc : ∀ (ps : List (List PV)) (j : Nat) (z : PV), ps.flatten[j]? = some z → ∃ (i : Nat) (p : List PV) (q : Nat), ps[i]? = some p ∧ p[q]? = some z ∧ j = ((ps.take i).map List.length).sum + q := by
            intro ps
            induction ps with
            | nil => intro j z hz; simp at hz
            | cons p ps ih2 =>
              intro j z hz
              rw [List.flatten_cons] at hz
              by_cases hjp : j < p.length
              · rw [List.getElem?_append_left hjp] at hz
                exact ⟨0, p, j, rfl, hz, by simp⟩
              · rw [List.getElem?_append_right (by omega)] at hz
                obtain ⟨i, q, r, h1, h2, h3⟩ := ih2 _ z hz
                exact ⟨i + 1, q, r, by simpa using h1, h2, by simp only [List.take_succ_cons, List.map_cons, List.sum_cons]; omega⟩
          obtain ⟨i, p, q, h1, h2, h3⟩ := loc ys j z hz
          have hi := (List.getElem?_eq_some_iff.1 h1).1
          have hif : fs.toList[i]? = some (fs.toList[i]'(by omega)) := List.getElem?_eq_getElem _
          obtain ⟨c1, u, c2, c3⟩ := (y2 i _ p hif h1).2.1.cell q z h2
          refine ⟨c1, u, ?_, c3⟩
          rw [hsum i, ← koff i _ hif] at h3
          rw [List.getElem?_take] at c2
          split at c2
          · rw [List.getElem?_drop] at c2
            rw [h3]; exact c2
          · cases c2
        · have := dBulks_le (ys := ys) (xs := xs.map (·.1)) (by simp [y1, hxl]) (fun i y x hy hx => by
            rw [List.getElem?_map, Option.map_eq_some_iff] at hx
            obtain ⟨x', hx', rfl⟩ := hx
            have hi := (List.getElem?_eq_some_iff.1 hy).1
            have hif : fs.toList[i]? = some (fs.toList[i]'(by omega)) := List.getElem?_eq_getElem _
            exact (y2 i _ y hif hy).2.2 x' (by rw [Nat.zero_add]; exact hx'))
          simp only [dBulk]
          omega
      | _ => simp at hg
end
end Go.Ev

namespace Go.Ev

section
variable {H : Type} {enc : TypeId × Value → H} {P : Program}

theorem good_kids {T : List TypeId} (hl : laidOutB P = true) (hT : goodT P T = true) : Kids P (fun t => t ∈ T) := by
  have good : ∀ {t : TypeId}, t ∈ T → _ := fun {t} ht => List.all_eq_true.1 hT t ht
  refine ⟨fun {t e} ht hu => ?_, fun {t e} ht hu => ?_, fun {t e n} ht hu => ?_, fun {t fs} ht hu => ?_, fun {t k e} ht hu => ?_⟩
  · have := good ht
    rw [hu] at this
    simp only [Bool.and_eq_true] at this
    exact (memN_iff _ _).1 this.1.1
  · have := good ht
    rw [hu] at this
    simp only [Bool.and_eq_true] at this
    exact (memN_iff _ _).1 this.1.1.1
  · have := good ht
    rw [hu] at this
    simp at this
  · have := good ht
    rw [hu] at this
    simp only [Bool.and_eq_true, List.all_eq_true, Nat.blt_eq] at this
    obtain ⟨_, h2, h3⟩ := kid_struct hl this.2 hu
    exact ⟨fun f hf => (memN_iff _ _).1 (this.1.1 f hf), h2, h3⟩
  · have := good ht
    rw [hu] at this
    simp at this
theorem good_sized {T : List TypeId} (hT : goodT P T = true) {t e : TypeId} (ht : t ∈ T) (hu : P.underlying t = some (.slice e)) : 0 < P.cellsOf e := by
  have := List.all_eq_true.1 hT t ht
  rw [hu] at this
  simp only [Bool.and_eq_true, Nat.blt_eq] at this
  exact this.1.1.2

/-- The arguments, read. -/
theorem trodAll_rep {T : List TypeId} {w : World} (hT : goodT P T = true) (K : Kids P (fun t => t ∈ T)) : ∀ (ts : List TypeId) (us : List Value) (ds : List (DataW H)) (ps : List MemPlace), (∀ t ∈ ts, t ∈ T) →
    (∀ (j : Nat) (t : TypeId) (u : Value), ts[j]? = some t → us[j]? = some u → tShape P t = some none → u.cells = #[u]) → (∀ (j : Nat) (t : TypeId) (u : Value) (n : Nat), ts[j]? = some t → us[j]? = some u → tShape P t = some (some n) → ∃ cs, u = .agg cs) →
    DataW.TrodAll enc P w 0 (fun _ => true) true ts us ds ps → ∃ vs, TypedAll P ts vs ∧ vs.length = us.length ∧ (∀ (j : Nat) (v : PV) (u : Value), vs[j]? = some v → us[j]? = some u → RepV w (fun _ => False) v u) ∧ pvBulks vs ≤ dBulks ds
  | [], [], [], _, _, _, _, _ => ⟨[], .nil, rfl, fun j v u h => by simp at h, by simp [pvBulks]⟩
  | t :: ts, u :: us, d :: ds, ps, ht, h1, h2, h => by
    obtain ⟨p, q, ⟨n, hn⟩, hr, rfl⟩ := h
    obtain ⟨vs, a1, a2, a3, a4⟩ := trodAll_rep hT K ts us ds q (fun x hx => ht x (by simp [hx])) (fun j t' u' hj hu => h1 (j + 1) t' u' (by simpa using hj) (by simpa using hu)) (fun j t' u' m hj hu => h2 (j + 1) t' u' m (by simpa using hj) (by simpa using hu)) hr
    obtain ⟨pcs, b1, b2, b3⟩ := trod_rep hT K n t _ _ (ht t (by simp)) hn
    have hg := List.all_eq_true.1 hT t (ht t (by simp))
    simp only [Bool.and_eq_true] at hg
    obtain ⟨sh, hs⟩ := Option.isSome_iff_exists.1 hg.1.2
    have hv : ∃ v, Typed P t v ∧ RepV w (fun _ => False) v u ∧ pvBulk v ≤ dBulk d := by
      cases sh with
      | none =>
        have hc := h1 0 t u rfl rfl hs
        rw [hc] at b2
        have hlen := b2.len
        match pcs, hlen with
        | [y], _ =>
          obtain ⟨c1, x, c2, c3⟩ := b2.cell 0 y rfl
          simp at c2
          subst c2
          exact ⟨y, ⟨n, none, hs, c1, by rw [cells_of_isCell c1]; exact b1⟩, c3, by simpa [pvBulks] using b3⟩
      | some m =>
        obtain ⟨cs, rfl⟩ := h2 0 t u m rfl rfl hs
        have e : (Value.agg cs).cells = cs := rfl
        rw [e] at b2
        have hlen : pcs.length = m := by
          have := b2.len
          have hcells : pcs.length = P.cellsOf t := by
            cases n with
            | zero => exact b1.elim
            | succ n =>
              unfold TypedC at b1
              unfold tShape at hs
              cases hi : P.info? t with
              | none => rw [hi] at hs; cases hs
              | some i =>
                rw [hi] at hs
                cases hu : P.underlying t with
                | none => rw [hu] at hs; cases hs
                | some dd =>
                  rw [hu] at hs b1
                  cases dd with
                  | struct fs => exact b1.1
                  | array => exact b1.elim
                  | _ =>
                    dsimp only at hs
                    split at hs
                    · cases hs
                    · cases hs
          rw [hcells, ← shN_cellsOf hs]; rfl
        refine ⟨.agg pcs, ⟨n, some m, hs, by simp [pvFits, hlen], b1⟩, ?_, by simpa [pvBulk] using b3⟩
        refine .agg pcs cs (fun j => cs.getD j Go.undef) (by have := b2.len; simpa using this.symm) (fun j y hj => (b2.cell j y hj).1) (fun j y hj => ?_) (fun j y hj => ?_)
        · obtain ⟨_, z, c2, _⟩ := b2.cell j y hj
          have : cs[j]? = some z := by simpa using c2
          simp [this]
        · obtain ⟨_, z, c2, c3⟩ := b2.cell j y hj
          have : cs[j]? = some z := by simpa using c2
          have : cs.getD j Go.undef = z := by simp [this]
          rw [this]; exact c3
    obtain ⟨v, v1, v2, v3⟩ := hv
    refine ⟨v :: vs, .cons _ _ _ _ v1 a1, by simp [a2], fun j v' u' hj hu => ?_, by simp only [pvBulks, dBulks]; omega⟩
    cases j with
    | zero => simp at hj hu; subst hj; subst hu; exact v2
    | succ j => exact a3 j v' u' (by simpa using hj) (by simpa using hu)
  | [], _ :: _, _, _, _, _, _, h => h.elim
  | [], [], _ :: _, _, _, _, _, h => h.elim
  | _ :: _, [], _, _, _, _, _, h => h.elim
  | _ :: _, _ :: _, [], _, _, _, _, h => h.elim

/-- They read the same, where old memory is as it was. -/
theorem trodAll_stays {T : List TypeId} {w w' : World} (hT : goodT P T = true) (K : Kids P (fun t => t ∈ T)) (hsame : ∀ k, k < w.heap.size → w'.heap[k]? = w.heap[k]?) : ∀ (ts : List TypeId) (us : List Value) (ds : List (DataW H)) (ps : List MemPlace), (∀ t ∈ ts, t ∈ T) →
    DataW.TrodAll enc P w 0 (fun _ => true) true ts us ds ps → DataW.TrodAll enc P w' 0 (fun b => decide (b < w.heap.size)) true ts us ds ps
  | [], [], [], _, _, h => h
  | t :: ts, u :: us, d :: ds, ps, ht, h => by
    obtain ⟨p, q, ⟨n, hn⟩, hr, rfl⟩ := h
    have hlt := DataW.trod_lt n t _ _ hn
    refine ⟨p, q, ⟨n, DataW.trod_stays K (fun h1 h2 => good_sized hT h1 h2) (fun h => by cases h) (ht t (by simp)) hn (fun x hx => ?_) (fun x hx => ?_)⟩, trodAll_stays hT K hsame ts us ds q (fun x hx => ht x (by simp [hx])) hr, rfl⟩
    · have := hsame _ (hlt x hx)
      cases x with
      | cell b off => exact cell_same this
      | map b => exact this
    · simpa using hlt x hx
  | [], _ :: _, _, _, _, h => h.elim
  | [], [], _ :: _, _, _, h => h.elim
  | _ :: _, [], _, _, _, h => h.elim
  | _ :: _, _ :: _, [], _, _, h => h.elim

theorem okWide_cells {w : World} {base : Nat} {t : TypeId} {u : Value} (h : Value.okWide P w .any base t u) : (tShape P t = some none → u.cells = #[u]) ∧ ∀ n, tShape P t = some (some n) → ∃ cs, u = .agg cs := by
  refine ⟨fun hs => ?_, fun n hs => ?_⟩
  · have hna : ∀ cs, u ≠ .agg cs := by
      rintro cs rfl
      unfold Value.okWide at h
      split at h
      · rename_i fs hu
        obtain ⟨m, hm⟩ := shape_struct hu hs
        cases hm
      · rename_i m e hu
        unfold tShape at hs
        rw [hu] at hs
        cases hi : P.info? t with
        | none => rw [hi] at hs; cases hs
        | some i => rw [hi] at hs; cases hs
      · unfold Cell.okWide at h
        split at h <;> try (simp_all; done)
        unfold Cell.ok at h
        split at h <;> simp_all
    cases u with
    | agg cs => exact absurd rfl (hna cs)
    | _ => rfl
  · unfold Value.okWide at h
    split at h
    · exact let ⟨cs, h1, _⟩ := h; ⟨cs, h1⟩
    · exact let ⟨cs, h1, _⟩ := h; ⟨cs, h1⟩
    · rename_i h1 h2
      exfalso
      unfold tShape at hs
      split at hs
      · rename_i i fs _ hu; exact h1 _ hu
      · rename_i i m e _ hu; exact h2 _ _ hu
      · split at hs
        · cases hs
        · cases hs
      · cases hs

theorem law_contract {C : Ctx} {f : FuncId} {fn : Func} {s : ChangeSpec} {T : List TypeId} {tb : TypeId} {W : World} {base : Nat} {args : Array Value} {ds gs : List (DataW H)} {before : List MemPlace}
    (hN : namesOk C.P = true) (hprim : ∀ g p os rr, C.prim g = some p → p os = some rr → CallSpec C.P g os rr.1 rr.2) (hl : laidOutB C.P = true) (hT : goodT C.P T = true) (hts : ∀ t ∈ fn.params.toList, t ∈ T)
    (hvars : s.vars = []) (hspec : ∀ ds : List (DataW H), ds.length = fn.params.size → s.fn H ds = { results := [.lit (.bool true)], args := ds }) (hres : fn.resultTypes = #[tb]) (htb : C.P.underlying tb = some .bool)
    (hval : ∀ (j : Nat) t v, fn.params[j]? = some t → args[j]? = some v → Value.okWide C.P W .any base t v) (hW : DataW.Whole enc C.P fn.params.toList s.vars false W args.toList ds gs before)
    (hlaw : ∀ vs, TypedAll C.P fn.params.toList vs → pvBulks vs ≤ dBulks (ds ++ gs) → ∃ n outs, pcall C n f (vs.map fun v => .flat (.val v)) = some ([.flat (.val (.bool true))], outs)) :
    Calls C.P f args W fun e W' => ∃ v, e = .returned v ∧ s.post enc C.P fn false true false false W args v W' := by
  have K := good_kids hl hT
  have hW' := hW
  obtain ⟨p, q, hA, hV, rfl, hfz, hnd⟩ := hW
  rw [hvars] at hV
  have hgs : gs = [] ∧ q = [] := by
    cases gs with
    | nil => exact ⟨rfl, hV⟩
    | cons => exact hV.elim
  obtain ⟨rfl, rfl⟩ := hgs
  have hlen : ∀ {ts : List TypeId} {us : List Value} {ds : List (DataW H)} {ps : List MemPlace}, DataW.TrodAll enc C.P W 0 (fun _ => true) true ts us ds ps → us.length = ts.length ∧ ds.length = ts.length := by
    intro ts
    induction ts with
    | nil =>
      intro us ds ps h
      cases us with
      | nil => cases ds with | nil => exact ⟨rfl, rfl⟩ | cons => exact h.elim
      | cons => exact h.elim
    | cons t ts ih =>
      intro us ds ps h
      cases us with
      | nil => exact h.elim
      | cons u us =>
        cases ds with
        | nil => exact h.elim
        | cons d ds =>
          obtain ⟨_, _, _, hr, _⟩ := h
          obtain ⟨a, b⟩ := ih hr
          exact ⟨by simp [a], by simp [b]⟩
  obtain ⟨hl1, hl2⟩ := hlen hA
  obtain ⟨vs, v1, v2, v3, v4⟩ := trodAll_rep hT K fn.params.toList args.toList ds p hts (fun j t u hj hu hs => (okWide_cells (hval j t u (by simpa using hj) (by simpa using hu))).1 hs) (fun j t u n hj hu hs => (okWide_cells (hval j t u (by simpa using hj) (by simpa using hu))).2 n hs) hA
  obtain ⟨n, outs, hp⟩ := hlaw vs v1 (by simpa using v4)
  have hcs := pcall_spec hN hprim n f _ _ hp
  have hS : SRel W (fun _ => False) (startSlots 0 (vs.map fun v => OV.flat (.val v))) (fun t => args.toList.getD t Go.undef) (fun _ _ => none) := by
    refine ⟨fun t => ?_, fun t c t' c' k q => (by cases q), fun t c k q => (by cases q)⟩
    rw [get_start, if_pos (Nat.zero_le _), Nat.sub_zero, List.getElem?_map]
    cases hv : vs[t]? with
    | none => exact fun _ => rfl
    | some v =>
      have hlt := (List.getElem?_eq_some_iff.1 hv).1
      have hu : args.toList[t]? = some (args.toList[t]'(by omega)) := List.getElem?_eq_getElem _
      have hget : args.toList.getD t Go.undef = args.toList[t]'(by omega) := by simp [List.getD, hu]
      show ORep _ _ (.flat (.val v)) (args.toList.getD t Go.undef) _ _
      rw [hget]
      refine .flat _ _ _ (.val _ _ ((v3 t v _ hv hu).move fun k _ _ => ⟨rfl, ?_⟩))
      rintro (⟨_, _, q⟩ | q)
      · cases q
      · exact q
  have hcall := hcs W (fun _ => False) args.toList (fun _ _ => none) (by simp [v2]) (fun k q => q.elim) hS
  have hargs : args.toList.toArray = args := by simp
  rw [hargs] at hcall
  refine hcall.mono fun e W' ⟨v, he, hG, hco⟩ => ?_
  obtain ⟨N, stO, tmO, ob, k1, _, _, _, k5, k6⟩ := hco.ex
  have hv : v = .bool true := by
    rw [k6]
    have hrep := k1.rep (N + 0)
    rw [k5 0 _ rfl] at hrep
    exact ((ORep.flat_inv hrep).1.val_inv).1.bool_inv
  subst hv
  have hsame : ∀ k, k < W.heap.size → W'.heap[k]? = W.heap[k]? := fun k hk => hG.same k hk fun ⟨_, _, q⟩ => by cases q
  have hsp := hspec (ds ++ []) (by simp [hl2])
  refine ⟨_, he, ds, [], p ++ [], [], p, [], hW', ?_, ?_, ?_, ⟨hG.os, hG.output, fun i hi => ?_⟩, fun h => by cases h⟩
  · rw [hsp, hres]
    refine ⟨[], [], ⟨1, ?_⟩, rfl, rfl⟩
    simp [DataW.trod, htb, Value.cells]
  · rw [hsp]
    simp only [List.append_nil]
    exact trodAll_stays hT K hsame _ _ _ _ hts hA
  · rw [hsp, hvars]
    exact rfl
  · rw [hsame i hi]
    cases W.heap[i]? with
    | none => trivial
    | some o =>
      cases o with
      | cells c t fr => exact ⟨rfl, rfl, rfl, fun _ _ => rfl⟩
      | map es clock => exact .inr ⟨rfl, rfl⟩
      | _ => exact rfl
end
end Go.Ev

namespace Go.Ev

section
variable {P : Program}

/-- A function that reads what it takes, gives what owns nothing, and leaves the world's old blocks alone. -/
theorem quiet_spec {f : FuncId} {os rs : List PV}
    (h : ∀ (w : World) (us : List Value), us.length = os.length → (∀ (j : Nat) (p : PV), os[j]? = some p → ∃ O, RepV w O p (us.getD j Go.undef)) →
      Calls P f us.toArray w fun e w' => ∃ vs : Nat → Value, e = .returned (resultVal rs.length vs) ∧ w' = w ∧ ∀ (j : Nat) (p : PV), rs[j]? = some p → ∀ w O, RepV w O p (vs j)) :
    CallSpec P f (os.map fun v => .flat (.val v)) (rs.map fun v => .flat (.val v)) [] := by
  intro w Oc us ab hlen hOc hS
  have hl : us.length = os.length := by simpa using hlen
  refine (h w us hl fun j p hj => ?_).mono fun e w' ⟨vs, he, hw, hr⟩ => ?_
  · have hr := hS.rep j
    rw [get_start, if_pos (Nat.zero_le _), Nat.sub_zero, List.getElem?_map, hj] at hr
    exact ⟨_, (ORep.flat_inv hr).1.val_inv.1⟩
  · subst hw
    refine ⟨_, he, Grow.refl _ _, ⟨⟨us.length, startSlots us.length (rs.map fun v => .flat (.val v)), fun t => vs (t - us.length), fun _ _ => none, ?_, fun t c k q => (by cases q), Nat.le_refl _, fun i o hi => (by simp at hi), fun j o hj => ?_, ?_⟩⟩⟩
    · refine ⟨fun t => ?_, fun t c t' c' k q => (by cases q), fun t c k q => (by cases q)⟩
      rw [get_start]
      split
      · rename_i hle
        rw [List.getElem?_map]
        cases hv : rs[t - us.length]? with
        | none => exact fun _ => rfl
        | some v => exact .flat _ _ _ (.val _ _ (hr _ _ hv _ _))
      · exact fun _ => rfl
    · rw [get_start, if_pos (by omega), Nat.add_sub_cancel_left, hj]
    · simp [Nat.add_sub_cancel_left]

/-- A value that speaks of no block. -/
def ScalarV (x : PV) (u : Value) : Prop := ∀ w O, RepV w O x u
/-- A new row of scalars, in a block of the call's own. -/
structure NewRow (w w' : World) (xs sp : List PV) (v : Value) : Prop where
  os : w'.os = w.os
  tape : w'.tape = w.tape
  output : w'.output = w.output
  size : w.heap.size ≤ w'.heap.size
  same : ∀ k, k < w.heap.size → w'.heap[k]? = w.heap[k]?
  row : (xs = [] ∧ sp = [] ∧ ∃ A, v = .slice A 0 0) ∨ ∃ (g c : Nat) (cur : Array Value) (e : TypeId) (fr : Nat × Nat), v = .slice (some ⟨g, 0, none⟩) xs.length c ∧ w.heap.size ≤ g ∧ w'.heap[g]? = some (.cells cur e fr) ∧ Thawed cur fr ∧
    cur.size = c ∧ xs.length ≤ c ∧ c ≤ 9223372036854775807 ∧ (∀ (i : Nat) (x : PV), xs[i]? = some x → ∃ u, cur[i]? = some u ∧ ScalarV x u) ∧ (∀ (j : Nat) (y : PV), sp[j]? = some y → ∃ u, cur[xs.length + j]? = some u ∧ ScalarV y u)

theorem newRow_spec {f : FuncId} {os xs sp : List PV} (hc : ∀ x ∈ xs, isCell x = true)
    (h : ∀ (w : World) (us : List Value), us.length = os.length → (∀ (j : Nat) (p : PV), os[j]? = some p → ∃ O, RepV w O p (us.getD j Go.undef)) →
      Calls P f us.toArray w fun e w' => ∃ v, e = .returned v ∧ NewRow w w' xs sp v) :
    CallSpec P f (os.map fun v => .flat (.val v)) [.flat (.own none xs sp)] [] := by
  intro w Oc us ab hlen hOc hS
  have hl : us.length = os.length := by simpa using hlen
  refine (h w us hl fun j p hj => ?_).mono fun e w' ⟨v, he, hr⟩ => ?_
  · have hr := hS.rep j
    rw [get_start, if_pos (Nat.zero_le _), Nat.sub_zero, List.getElem?_map, hj] at hr
    exact ⟨_, (ORep.flat_inv hr).1.val_inv.1⟩
  · have hG : Grow w w' ab := ⟨hr.os, hr.tape, hr.output, hr.size, fun k hk _ => hr.same k hk⟩
    have get1 : ∀ t, t ≠ us.length → (startSlots us.length [OV.flat (.own none xs sp)]).get t = .dead := by
      intro t ht
      rw [get_start]
      split
      · rename_i hle
        have : t - us.length ≠ 0 := by omega
        cases hk : t - us.length with
        | zero => omega
        | succ k => rfl
      · rfl
    have get2 : (startSlots us.length [OV.flat (.own none xs sp)]).get us.length = .home (.flat (.own none xs sp)) := by
      rw [get_start, if_pos (Nat.le_refl _), Nat.sub_self]
      rfl
    have hcells : ∀ (i : Nat) (x : PV), xs[i]? = some x → x.cells = [x] := fun i x hi => cells_of_isCell (hc x (List.mem_of_getElem? hi))
    rcases hr.row with ⟨rfl, rfl, A, rfl⟩ | ⟨g, c, cur, ety, fr, rfl, hg, hh, ht, hs, hlc, hcL, hx, hy⟩
    · refine ⟨_, he, hG, ⟨⟨us.length, startSlots us.length [.flat (.own none [] [])], fun _ => .slice A 0 0, fun _ _ => none, ⟨fun t => ?_, fun t c t' c' k q => (by cases q), fun t c k q => (by cases q)⟩, fun t c k q => (by cases q), Nat.le_refl _, fun i o hi => (by simp at hi), fun j o hj => ?_, ?_⟩⟩⟩
      · by_cases htl : t = us.length
        · subst htl
          rw [get2]
          exact .flat _ _ _ (.ownE none A)
        · rw [get1 t htl]
          exact fun _ => rfl
      · cases j with
        | zero => simp at hj; subst hj; exact get2
        | succ j => simp at hj
      · rfl
    · have hgl : g < w'.heap.size := (Array.getElem?_eq_some_iff.1 hh).1
      have hspL : xs.length + sp.length ≤ c := by
        cases hk : sp.length with
        | zero => omega
        | succ k =>
          obtain ⟨u, hu, _⟩ := hy k sp[k] (by simp [hk])
          have := (Array.getElem?_eq_some_iff.1 hu).1
          omega
      have hob : ∀ (t : Nat) (c : Option Nat) (k : Nat), (if t = us.length ∧ c = none then some g else none) = some k → t = us.length ∧ c = none ∧ k = g := by
        intro t c k q
        split at q
        · rename_i h1
          cases q
          exact ⟨h1.1, h1.2, rfl⟩
        · cases q
      refine ⟨_, he, hG, ⟨⟨us.length, startSlots us.length [.flat (.own none xs sp)], fun _ => .slice (some ⟨g, 0, none⟩) xs.length c, fun t c => if t = us.length ∧ c = none then some g else none, ⟨fun t => ?_, fun t c t' c' k q q' => ?_, fun t c k q => ?_⟩, fun t c k q => ?_, Nat.le_refl _, fun i o hi => (by simp at hi), fun j o hj => ?_, ?_⟩⟩⟩
      · by_cases htl : t = us.length
        · subst htl
          rw [get2]
          show ORep w' _ (.flat (.own none xs sp)) _ (if us.length = us.length ∧ (none : Option Nat) = none then some g else none) (fun j => if us.length = us.length ∧ some j = none then some g else none)
          have e1 : (if us.length = us.length ∧ (none : Option Nat) = none then some g else none) = some g := by simp
          have e2 : (fun j : Nat => if us.length = us.length ∧ some j = none then some g else none) = fun _ => none := by funext j; simp
          rw [e1, e2]
          refine .flat _ _ _ (.own none xs sp g c cur ety fr (fun i _ => cur.getD i Go.undef) ⟨hh, ht, by simpa [shN] using Nat.le_of_eq hs.symm, hlc, fun i x hi => hc x (List.mem_of_getElem? hi), fun i x j y hi hj => ?_, fun i x j y hi hj => ?_, fun i x j y hi hj => ?_, fun j y hj => ?_, hcL, hspL⟩)
          · rw [hcells i x hi] at hj
            cases j with
            | zero => simp at hj; subst hj; exact hc x (List.mem_of_getElem? hi)
            | succ j => simp at hj
          · rw [hcells i x hi] at hj
            cases j with
            | zero =>
              obtain ⟨u, hu, _⟩ := hx i x hi
              simp [shN, Array.getD_eq_getD_getElem?, hu]
            | succ j => simp at hj
          · rw [hcells i x hi] at hj
            cases j with
            | zero =>
              simp at hj
              subst hj
              obtain ⟨u, hu, hs⟩ := hx i x hi
              simp only [Array.getD_eq_getD_getElem?, hu, Option.getD_some]
              exact hs _ _
            | succ j => simp at hj
          · obtain ⟨u, hu, hs⟩ := hy j y hj
            exact ⟨u, by simpa [shN] using hu, hs _ _⟩
        · rw [get1 t htl]
          intro c
          simp [htl]
      · obtain ⟨a1, a2, _⟩ := hob _ _ _ q
        obtain ⟨b1, b2, _⟩ := hob _ _ _ q'
        exact ⟨a1.trans b1.symm, a2.trans b2.symm⟩
      · obtain ⟨_, _, rfl⟩ := hob _ _ _ q
        exact ⟨fun ho => absurd (hOc _ ho) (by omega), hgl⟩
      · obtain ⟨_, _, rfl⟩ := hob _ _ _ q
        exact .inr hg
      · cases j with
        | zero => simp at hj; subst hj; exact get2
        | succ j => simp at hj
      · rfl
end

/-- strings.Compare -/
def primCompare : List OV → Option (List OV × List OV)
  | [.flat (.val (.str a)), .flat (.val (.str b))] => some ([.flat (.val (.int .i64 (Lib.compareBytes a b)))], [])
  | _ => none

theorem primCompare_spec {P : Program} {f : FuncId} (h : ∀ (a b : ByteArray) (w : World), Calls P f #[.string a, .string b] w fun e w' => e = .returned (.int .i64 (Lib.compareBytes a.data.toList b.data.toList)) ∧ w' = w)
    {os : List OV} {rr : List OV × List OV} (hp : primCompare os = some rr) : CallSpec P f os rr.1 rr.2 := by
  unfold primCompare at hp
  split at hp
  · rename_i a b
    cases hp
    refine quiet_spec (os := [.str a, .str b]) (rs := [.int .i64 (Lib.compareBytes a b)]) fun w us hl hr => ?_
    match us, hl with
    | [x, y], _ =>
      obtain ⟨O, hx⟩ := hr 0 _ rfl
      obtain ⟨O', hy⟩ := hr 1 _ rfl
      obtain ⟨sx, rfl, rfl⟩ := hx.str_inv
      obtain ⟨sy, rfl, rfl⟩ := hy.str_inv
      refine (h sx sy w).mono fun e w' ⟨he, hw⟩ => ⟨fun _ => .int .i64 (Lib.compareBytes sx.data.toList sy.data.toList), he, hw, fun j p hj => ?_⟩
      match j, hj with
      | 0, rfl => exact fun w O => .int _ _
  · cases hp

theorem isByte_inv {x : PV} (h : isByte x = true) : x = .int .u8 x.toI := by
  unfold isByte at h
  split at h
  · rfl
  · cases h
theorem isByte_cell {x : PV} (h : isByte x = true) : isCell x = true := by
  rw [isByte_inv h]; rfl
/-- Bytes that are read: where they lie. -/
theorem bytes_read {w : World} {O : Nat → Prop} {xs : List PV} {u : Value} (hb : xs.all isByte = true) (h : RepV w O (.sl none xs) u) :
    ∃ A c, u = .slice A xs.length c ∧ xs.length ≤ c ∧ (A = none → c = 0) ∧ ∀ a, A = some a → ∀ i, i < xs.length → w.cell? (a.add i) = some (.int .u8 ((xs.map PV.toI).getD i 0)) := by
  obtain ⟨A, c, h1, h2, h3, h4, h5⟩ := h.sl_inv
  refine ⟨A, c, h1, h2, h3, fun a ha i hi => ?_⟩
  have hx : xs[i]? = some xs[i] := List.getElem?_eq_getElem hi
  have hbx : isByte xs[i] = true := List.all_eq_true.1 hb _ (List.getElem_mem hi)
  have hc := cells_of_isCell (isByte_cell hbx)
  obtain ⟨_, a', z, e1, _, e2, e3⟩ := h5 i xs[i] 0 xs[i] hx (by rw [hc]; rfl)
  rw [ha] at e1
  cases e1
  rw [isByte_inv hbx] at e3
  have := e3.int_inv
  subst this
  simp only [shN, Nat.mul_one, Nat.add_zero] at e2
  rw [e2]
  simp [List.getD, hx]
theorem bytes_scalar {xs : List PV} (hb : xs.all isByte = true) (i : Nat) (x : PV) (hi : xs[i]? = some x) : ((xs.map PV.toI).map (Value.int .u8))[i]? = some (Value.int .u8 x.toI) ∧ ScalarV x (Value.int .u8 x.toI) := by
  refine ⟨by simp [hi], fun w O => ?_⟩
  have := isByte_inv (List.all_eq_true.1 hb x (List.mem_of_getElem? hi))
  rw [this]
  exact .int _ _
theorem newRow_of_owns {w w' : World} {xs : List PV} {v : Value} {t : TypeId} (hb : xs.all isByte = true) (ho : w'.ownsRow w.heap.size t 1 v xs.length ((xs.map PV.toI).map (Value.int .u8))) (h : RowKit.Below w.heap.size w w') : NewRow w w' xs [] v := by
  refine ⟨h.os, h.tape, h.output, h.size, h.block, ?_⟩
  rcases ho.2 with ⟨rfl, hn⟩ | ⟨g, cap, cur, rfl, hg, hh, hn, hm, hs, ht⟩
  · left
    cases xs with
    | nil => exact ⟨rfl, rfl, _, rfl⟩
    | cons => simp at hn
  · right
    refine ⟨g, cap, cur, t, (0, 0), rfl, hg, hh, .inl rfl, by simpa using hs, hn, hm, fun i x hi => ?_, fun j y hj => by simp at hj⟩
    obtain ⟨h1, h2⟩ := bytes_scalar hb i x hi
    refine ⟨_, ?_, h2⟩
    rw [← ht, List.getElem?_take] at h1
    split at h1
    · simpa using h1
    · cases h1

/-- bytes.Clone -/
def primClone : List OV → Option (List OV × List OV)
  | [.flat (.val (.sl none xs))] => match xs.all isByte && Nat.ble xs.length 140737488355328 with
    | true => some ([.flat (.own none xs [])], [])
    | false => none
  | _ => none
theorem primClone_spec {P : Program} {f : FuncId} {t : TypeId} (hn : ∀ (n c : Nat) (w : World), Calls P f #[.slice none n c] w fun e w' => e = .returned (.slice none 0 0) ∧ w' = w)
    (ha : ∀ (a : Addr) (n c : Nat) (xs : List Int) (w : World), xs.length = n → n ≤ 140737488355328 → (∀ i, i < n → w.cell? (a.add i) = some (.int .u8 (xs.getD i 0))) →
      Calls P f #[.slice (some a) n c] w fun e w' => ∃ v', e = .returned v' ∧ w'.ownsRow w.heap.size t 1 v' n (xs.map (Value.int .u8)) ∧ RowKit.Below w.heap.size w w')
    {os : List OV} {rr : List OV × List OV} (hp : primClone os = some rr) : CallSpec P f os rr.1 rr.2 := by
  unfold primClone at hp
  split at hp
  · rename_i xs
    split at hp
    · rename_i hc
      cases hp
      simp only [Bool.and_eq_true] at hc
      obtain ⟨hb, hl⟩ := hc
      rw [Nat.ble_eq] at hl
      refine newRow_spec (os := [.sl none xs]) (fun x hx => isByte_cell (List.all_eq_true.1 hb x hx)) fun w us hlen hr => ?_
      match us, hlen with
      | [u], _ =>
        obtain ⟨O, hu⟩ := hr 0 _ rfl
        obtain ⟨A, c, rfl, h2, h3, h4⟩ := bytes_read hb hu
        cases A with
        | none =>
          have : c = 0 := h3 rfl
          have hx : xs = [] := List.length_eq_zero_iff.1 (by omega)
          subst hx
          refine (hn _ _ w).mono fun e w' ⟨he, hw⟩ => ?_
          subst hw
          exact ⟨_, he, rfl, rfl, rfl, Nat.le_refl _, fun _ _ => rfl, .inl ⟨rfl, rfl, none, rfl⟩⟩
        | some a =>
          refine (ha a xs.length c (xs.map PV.toI) w (by simp) hl (h4 a rfl)).mono fun e w' ⟨v', he, ho, hB⟩ => ?_
          exact ⟨v', he, newRow_of_owns hb ho hB⟩
    · cases hp
  · cases hp
end Go.Ev

