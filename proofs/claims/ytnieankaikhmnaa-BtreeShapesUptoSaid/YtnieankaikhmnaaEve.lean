/- An evaluator of the model's code over pure data, and why it is right: part 5. -/
import Derived.Test.YtnieankaikhmnaaEvd

set_option linter.unusedVariables false

set_option linter.unusedSimpArgs false

set_option linter.unusedSectionVars false

namespace Go.Ev

section
variable {P : Program} {w : World} {Oc : Nat → Prop} {st : Slots} {tm : Nat → Value} {blk : Blk} {r : List Edit × SV}

/-- Arguments, and their values. -/
inductive ArgsRep (w : World) (O : Nat → Prop) (st : Slots) (tm : Nat → Value) : List Arg → List Value → Prop
  | nil : ArgsRep w O st tm [] []
  | cons (a : Arg) (u : Value) (as : List Arg) (us : List Value) (h : ArgRep w O st tm a u) (hr : ArgsRep w O st tm as us) : ArgsRep w O st tm (a :: as) (u :: us)

theorem ArgsRep.get {O : Nat → Prop} : ∀ {as : List Arg} {us : List Value}, ArgsRep w O st tm as us → us.length = as.length ∧ ∀ (i : Nat) (a : Arg), as[i]? = some a → ∃ u, us[i]? = some u ∧ ArgRep w O st tm a u
  | _, _, .nil => ⟨rfl, fun i a h => by simp at h⟩
  | _, _, .cons a u as us h hr => by
    obtain ⟨h1, h2⟩ := hr.get
    refine ⟨by simp [h1], fun i b hb => ?_⟩
    cases i with
    | zero => simp at hb; subst hb; exact ⟨u, rfl, h⟩
    | succ i => exact h2 i b (by simpa using hb)

theorem ArgsRep.append {O : Nat → Prop} : ∀ {as bs : List Arg} {us vs : List Value}, ArgsRep w O st tm as us → ArgsRep w O st tm bs vs → ArgsRep w O st tm (as ++ bs) (us ++ vs)
  | _, _, _, _, .nil, h => h
  | _, _, _, _, .cons a u as us h hr, g => .cons a u _ _ h (hr.append g)

theorem fetchAll_rep (h : SRel w Oc st tm blk) (act : Act) (hact : ∀ t, act.tmps.getD t Go.undef = tm t) : ∀ (xs : List Operand) (ts : List TypeId) (as : List Arg), fetchAll P st ts xs = some as → ArgsRep w (blk.off Oc) st tm as (xs.map act.eval)
  | [], _, as, hf => by simp only [fetchAll, Option.some.injEq] at hf; subst hf; exact .nil
  | x :: xs, ts, as, hf => by
    simp only [fetchAll] at hf
    split at hf
    · rename_i a as' h1 h2
      cases hf
      exact .cons _ _ _ _ (fetch_rep h h1 act hact) (fetchAll_rep h act hact xs ts.tail as' h2)
    · cases hf

theorem fetchParts_rep (h : SRel w Oc st tm blk) (act : Act) (hact : ∀ t, act.tmps.getD t Go.undef = tm t) (ty : Nat → TypeId) : ∀ (xs : List (Nat × Operand)) (ps : List (Nat × Arg)), fetchParts P st ty xs = some ps →
    PartsReady w (blk.off Oc) st tm [] ps (xs.map fun (i, x) => (i, act.eval x))
  | [], ps, hf => by simp only [fetchParts, Option.some.injEq] at hf; subst hf; exact .nil
  | (i, x) :: xs, ps, hf => by
    simp only [fetchParts] at hf
    split at hf
    · rename_i a as' h1 h2
      cases hf
      exact .cons _ _ _ _ _ (Ready.start h (fetch_rep h h1 act hact)) (fetchParts_rep h act hact ty xs as' h2)
    · cases hf

theorem optInt_rep (h : SRel w Oc st tm blk) (act : Act) (hact : ∀ t, act.tmps.getD t Go.undef = tm t) {x : Option Operand} {n : Option Int} (hf : optInt P st x = some n) : OptRep n (x.map act.eval) := by
  cases x with
  | none => simp only [optInt, Option.some.injEq] at hf; subst hf; exact .none
  | some x =>
    simp only [optInt] at hf
    split at hf
    · rename_i a h1
      split at hf
      · rename_i m hm
        cases hf
        obtain ⟨k, hk⟩ := (fetch_rep h h1 act hact).int hm
        simp only [Option.map_some, hk]
        exact .some k m
      · cases hf
    · cases hf

/-! #### functions made -/
theorem arg_owns_none {a : Arg} (ha : a.sv.root = none) (blk : Blk) (k : Nat) : ¬ a.owns blk k := by
  unfold Arg.owns
  cases hsv : a.sv with
  | ref s c => rw [hsv] at ha; simp [SV.root] at ha
  | view s c l h => rw [hsv] at ha; simp [SV.root] at ha
  | rng s j n => rw [hsv] at ha; simp [SV.root] at ha
  | _ => exact id

/-- One argument is frozen. -/
theorem freeze_arg (h : SRel w Oc st tm blk) {a : Arg} {v : PV} {es : List Edit} (hroot : ∀ s o, a.rt = some (s, o) → st.get s = .home o ∧ a.sv.root = some s) (hp : a.pv = some v) (hf : a.freeze = some es) :
    ∃ blk', SRel w Oc (edits es st) tm blk' ∧ (∀ t c k, blk' t c = some k → blk t c = some k) ∧ (∀ t c k, blk' t c = some k → ¬ a.owns blk k) ∧ (∀ t, (∀ e ∈ es, e.s ≠ t) → blk' t = blk t) ∧ (∀ e ∈ es, a.sv.root = some e.s) := by
  obtain ⟨sv, rt⟩ := a
  cases sv with
  | home o =>
    simp only [Arg.freeze, Option.some.injEq] at hf
    subst hf
    exact ⟨blk, h, fun _ _ _ q => q, fun _ _ k _ => arg_owns_none (by rfl) _ _, fun _ _ => rfl, fun e he => by cases he⟩
  | fadr sh p =>
    simp only [Arg.freeze, Option.some.injEq] at hf
    subst hf
    exact ⟨blk, h, fun _ _ _ q => q, fun _ _ k _ => arg_owns_none (by rfl) _ _, fun _ _ => rfl, fun e he => by cases he⟩
  | ref s c =>
    cases rt with
    | none => simp [Arg.freeze] at hf
    | some p =>
      obtain ⟨s', o⟩ := p
      obtain ⟨hg, hr⟩ := hroot s' o rfl
      cases (Option.some.inj hr : s = s')
      simp only [Arg.freeze] at hf
      split at hf
      · rename_i x hx
        split at hf
        · rename_i v' hv
          cases he : setAt s o c (.val v') with
          | none => rw [he] at hf; cases hf
          | some e =>
            rw [he] at hf
            simp only [one, Option.some.injEq] at hf
            subst hf
            obtain ⟨blk', h1, h2, h3⟩ := freeze_place h hg hx hv he
            have hes : e.s = s := by
              rcases setAt_val he with ⟨_, rfl⟩ | ⟨_, _, _, _, _, rfl⟩ <;> rfl
            exact ⟨blk', h1, fun t c k q => (h2 t c k q).1, fun t c k q => (h2 t c k q).2, fun t ht => h3 t fun e2 => ht e (by simp) (by rw [hes, e2]), fun e' he' => by simp at he'; subst he'; rw [hes]; rfl⟩
        · cases hf
      · cases hf
  | view s c l u =>
    cases rt with
    | none => simp [Arg.freeze] at hf
    | some p =>
      obtain ⟨s', o⟩ := p
      obtain ⟨hg, hr⟩ := hroot s' o rfl
      cases (Option.some.inj hr : s = s')
      simp only [Arg.freeze] at hf
      split at hf
      · rename_i x hx
        split at hf
        · rename_i v' hv
          cases he : setAt s o c (.val v') with
          | none => rw [he] at hf; cases hf
          | some e =>
            rw [he] at hf
            simp only [one, Option.some.injEq] at hf
            subst hf
            obtain ⟨blk', h1, h2, h3⟩ := freeze_place h hg hx hv he
            have hes : e.s = s := by
              rcases setAt_val he with ⟨_, rfl⟩ | ⟨_, _, _, _, _, rfl⟩ <;> rfl
            exact ⟨blk', h1, fun t c k q => (h2 t c k q).1, fun t c k q => (h2 t c k q).2, fun t ht => h3 t fun e2 => ht e (by simp) (by rw [hes, e2]), fun e' he' => by simp at he'; subst he'; rw [hes]; rfl⟩
        · cases hf
      · cases hf
  | dead => simp [Arg.freeze] at hf
  | adr s j => simp [Arg.freeze] at hf
  | adrx s j => simp [Arg.freeze] at hf
  | adre s c i off => simp [Arg.freeze] at hf
  | rng s j n => simp [Arg.freeze] at hf

/-- The blocks of an argument's place hang on its slot alone. -/
theorem owns_congr {a : Arg} {blk blk' : Blk} (h : ∀ s, a.sv.root = some s → blk' s = blk s) (k : Nat) : a.owns blk' k ↔ a.owns blk k := by
  unfold Arg.owns
  cases hsv : a.sv with
  | ref s c =>
    have := h s (by rw [hsv]; rfl)
    cases c <;> simp [placeOwns, Blk.at, this]
  | view s c l u =>
    have := h s (by rw [hsv]; rfl)
    cases c <;> simp [placeOwns, Blk.at, this]
  | rng s j n =>
    have := h s (by rw [hsv]; rfl)
    simp [this]
  | _ => exact Iff.rfl

theorem freeze_on {a : Arg} {es : List Edit} (hf : a.freeze = some es) {s : Nat} (hs : a.sv.root = some s) : ∃ e ∈ es, e.s = s := by
  obtain ⟨sv, rt⟩ := a
  have key : ∀ (s c) (o x : OV) (v : PV), setAt s o c (.val v) = none ∨ ∃ e, setAt s o c (.val v) = some e ∧ e.s = s := by
    intro s c o x v
    cases he : setAt s o c (.val v) with
    | none => exact .inl rfl
    | some e =>
      right
      rcases setAt_val he with ⟨_, rfl⟩ | ⟨_, _, _, _, _, rfl⟩ <;> exact ⟨_, rfl, rfl⟩
  cases sv with
  | ref s' c =>
    have hss : s' = s := Option.some.inj hs
    subst hss
    cases rt with
    | none => simp [Arg.freeze] at hf
    | some p =>
      obtain ⟨q, o⟩ := p
      simp only [Arg.freeze] at hf
      split at hf
      · rename_i x hx
        split at hf
        · rename_i v hv
          rcases key _ c o x v with he | ⟨e, he, h2⟩ <;> rw [he] at hf <;> simp only [one, Option.some.injEq] at hf
          · cases hf
          · subst hf; exact ⟨e, by simp, h2⟩
        · cases hf
      · cases hf
  | view s' c l u =>
    have hss : s' = s := Option.some.inj hs
    subst hss
    cases rt with
    | none => simp [Arg.freeze] at hf
    | some p =>
      obtain ⟨q, o⟩ := p
      simp only [Arg.freeze] at hf
      split at hf
      · rename_i x hx
        split at hf
        · rename_i v hv
          rcases key _ c o x v with he | ⟨e, he, h2⟩ <;> rw [he] at hf <;> simp only [one, Option.some.injEq] at hf
          · cases hf
          · subst hf; exact ⟨e, by simp, h2⟩
        · cases hf
      · cases hf
  | home o => simp [SV.root] at hs
  | fadr sh p => simp [SV.root] at hs
  | dead => simp [SV.root] at hs
  | adr s j => simp [Arg.freeze] at hf
  | adrx s j => simp [Arg.freeze] at hf
  | adre s c i off => simp [Arg.freeze] at hf
  | rng s j n => simp [Arg.freeze] at hf

theorem freezes_on : ∀ {as : List Arg} {es : List Edit}, freezes as = some es → ∀ a ∈ as, ∀ s, a.sv.root = some s → ∃ e ∈ es, e.s = s
  | [], _, _, a, ha, _, _ => by cases ha
  | b :: as, es, hf, a, ha, s, hs => by
    simp only [freezes] at hf
    split at hf
    · rename_i e1 e2 h1 h2
      cases hf
      rcases List.mem_cons.1 ha with rfl | ha
      · obtain ⟨e, he, h3⟩ := freeze_on h1 hs
        exact ⟨e, by simp [he], h3⟩
      · obtain ⟨e, he, h3⟩ := freezes_on h2 a ha s hs
        exact ⟨e, by simp [he], h3⟩
    · cases hf

/-- Arguments are frozen, one by one. -/
theorem freezes_rep : ∀ (as : List Arg) (st : Slots) (blk : Blk) (es : List Edit) (vs : List PV), SRel w Oc st tm blk → (∀ a ∈ as, ∀ s o, a.rt = some (s, o) → st.get s = .home o ∧ a.sv.root = some s) → pvsOf as = some vs → freezes as = some es → onceEach es = true →
    ∃ blk', SRel w Oc (edits es st) tm blk' ∧ (∀ t c k, blk' t c = some k → blk t c = some k) ∧ (∀ a ∈ as, ∀ t c k, blk' t c = some k → ¬ a.owns blk k) ∧ (∀ t, (∀ e ∈ es, e.s ≠ t) → blk' t = blk t)
  | [], st, blk, es, vs, h, _, _, hf, _ => by
    simp only [freezes, Option.some.injEq] at hf
    subst hf
    exact ⟨blk, h, fun _ _ _ q => q, fun a ha => (by cases ha), fun _ _ => rfl⟩
  | a :: as, st, blk, es, vs, h, hroot, hp, hf, ho => by
    simp only [freezes] at hf
    simp only [pvsOf] at hp
    split at hp
    · rename_i v vs' hv hvs
      split at hf
      · rename_i e1 e2 h1 h2
        cases hf
        obtain ⟨o1, o2, o3⟩ := onceEach_append ho
        obtain ⟨blk1, a1, a2, a3, a4, a5⟩ := freeze_arg h (hroot a (by simp)) hv h1
        have hon : ∀ b ∈ as, ∀ s, b.sv.root = some s → notOn s e1 = true := fun b hb s hs => by
          rw [notOn_iff]
          intro hm
          obtain ⟨e, he, rfl⟩ := freezes_on h2 b hb s hs
          exact o3 e he hm
        have hroot1 : ∀ b ∈ as, ∀ s o, b.rt = some (s, o) → (edits e1 st).get s = .home o ∧ b.sv.root = some s := by
          intro b hb s o hrt
          obtain ⟨q1, q2⟩ := hroot b (by simp [hb]) s o hrt
          exact ⟨(edits_home (hon b hb s q2) o).2 q1, q2⟩
        obtain ⟨blk2, b1, b2, b3, b4⟩ := freezes_rep as _ _ _ _ a1 hroot1 hvs h2 o2
        refine ⟨blk2, by rw [edits_append]; exact b1, fun t c k q => a2 _ _ _ (b2 _ _ _ q), fun b hb t c k q => ?_, fun t ht => by rw [b4 t fun e he => ht e (by simp [he]), a4 t fun e he => ht e (by simp [he])]⟩
        rcases List.mem_cons.1 hb with rfl | hb
        · exact a3 t c k (b2 _ _ _ q)
        · rw [← owns_congr (blk' := blk1) (fun s hs => a4 s fun e he h2 => by
            have := hon b hb s hs
            rw [notOn_iff] at this
            exact this (List.mem_map.2 ⟨e, he, h2⟩))]
          exact b3 b hb t c k q
      · cases hf
    · cases hp

theorem pvs_rep (h : SRel w Oc st tm blk) : ∀ {as : List Arg} {us : List Value} {vs : List PV}, ArgsRep w (blk.off Oc) st tm as us → pvsOf as = some vs →
    vs.length = us.length ∧ ∀ (j : Nat) (y : PV), vs[j]? = some y → ∃ a z, a ∈ as ∧ us[j]? = some z ∧ RepV w (lent (blk.off Oc) blk a) y z
  | _, _, _, .nil, hp => by simp only [pvsOf, Option.some.injEq] at hp; subst hp; exact ⟨rfl, fun j y hj => by simp at hj⟩
  | _, _, _, .cons a u as us ha hr, hp => by
    simp only [pvsOf] at hp
    split at hp
    · rename_i v vs hv hvs
      cases hp
      obtain ⟨h1, h2⟩ := pvs_rep h hr hvs
      refine ⟨by simp [h1], fun j y hj => ?_⟩
      cases j with
      | zero => simp at hj; subst hj; exact ⟨a, u, by simp, rfl, arg_pv h ha hv⟩
      | succ j =>
        obtain ⟨b, z, hb, hz, hrep⟩ := h2 j y (by simpa using hj)
        exact ⟨b, z, by simp [hb], hz, hrep⟩
    · cases hp
theorem freezes_append : ∀ {as bs : List Arg} {es fs : List Edit}, freezes as = some es → freezes bs = some fs → freezes (as ++ bs) = some (es ++ fs)
  | [], bs, es, fs, h1, h2 => by simp only [freezes, Option.some.injEq] at h1; subst h1; simpa using h2
  | a :: as, bs, es, fs, h1, h2 => by
    simp only [freezes] at h1
    split at h1
    · rename_i e1 e2 g1 g2
      cases h1
      simp only [List.cons_append, freezes, g1, freezes_append g2 h2, List.append_assoc]
    · cases h1
theorem pvsOf_append : ∀ {as bs : List Arg} {vs us : List PV}, pvsOf as = some vs → pvsOf bs = some us → pvsOf (as ++ bs) = some (vs ++ us)
  | [], bs, es, fs, h1, h2 => by simp only [pvsOf, Option.some.injEq] at h1; subst h1; simpa using h2
  | a :: as, bs, es, fs, h1, h2 => by
    simp only [pvsOf] at h1
    split at h1
    · rename_i e1 e2 g1 g2
      cases h1
      simp only [List.cons_append, pvsOf, g1, pvsOf_append g2 h2]
    · cases h1

theorem sim_makeFunc (h : SRel w Oc st tm blk) {f : Fn} {fs cs : List Arg} {us vs : Array Value} (hf : ArgsRep w (blk.off Oc) st tm fs us.toList) (hc : ArgsRep w (blk.off Oc) st tm cs vs.toList) (hr : (cMakeFunc f fs cs).holds r) :
    Gives P (asNext (Instr.makeFunc f us vs)) w Oc st tm blk r := by
  unfold cMakeFunc at hr
  split at hr
  · rename_i g a b e g' h1 h2 h3 h4
    split at hr
    · rename_i ho
      cases Q.holds_ok hr
      have hall := hf.append hc
      have hroot : ∀ x ∈ fs ++ cs, ∀ s o, x.rt = some (s, o) → st.get s = .home o ∧ x.sv.root = some s := by
        intro x hx s o hrt
        obtain ⟨i, hi, rfl⟩ := List.mem_iff_getElem.1 hx
        obtain ⟨u, _, hu⟩ := hall.get.2 i _ (List.getElem?_eq_getElem hi)
        exact hu.root s o hrt
      obtain ⟨blk', k1, k2, k3, _⟩ := freezes_rep (fs ++ cs) st blk (e ++ g') _ h hroot (pvsOf_append h1 h2) (freezes_append h3 h4) ho
      have hmv : ∀ x ∈ fs ++ cs, ∀ (y : PV) (z : Value), RepV w (lent (blk.off Oc) blk x) y z → RepV w (blk'.off Oc) y z := by
        intro x hx y z hyz
        refine hyz.move fun k hk hno => ⟨rfl, fun q => hno ⟨?_, ?_⟩⟩
        · rcases q with ⟨t, c, q⟩ | q
          · exact .inl ⟨t, c, k2 _ _ _ q⟩
          · exact .inr q
        · rcases q with ⟨t, c, q⟩ | q
          · exact k3 x hx t c k q
          · intro ow
            obtain ⟨i, hi, rfl⟩ := List.mem_iff_getElem.1 hx
            unfold Arg.owns at ow
            split at ow
            · rename_i s c hsv
              cases c with
              | none => obtain ⟨c, hc⟩ := ow; exact (h.out _ _ _ hc).1 q
              | some j => exact (h.out _ _ _ ow).1 q
            · rename_i s c _ _ hsv
              cases c with
              | none => obtain ⟨c, hc⟩ := ow; exact (h.out _ _ _ hc).1 q
              | some j => exact (h.out _ _ _ ow).1 q
            · obtain ⟨x, _, _, hx⟩ := ow; exact (h.out _ _ _ hx).1 q
            · exact ow
      obtain ⟨f1, f2⟩ := pvs_rep h hf h1
      obtain ⟨c1, c2⟩ := pvs_rep h hc h2
      have hrep : RepV w (blk'.off Oc) (.fn (.func g) a b) (.func (.func g) us vs) := by
        refine .fn _ _ _ _ _ (fun j => us.getD j Go.undef) (fun j => vs.getD j Go.undef) (by simpa using f1.symm) (by simpa using c1.symm) (fun j y hj => ?_) (fun j y hj => ?_) (fun j y hj => ?_) (fun j y hj => ?_)
        · obtain ⟨x, z, hx, hz, _⟩ := f2 j y hj
          have hz' : us[j]? = some z := by simpa using hz
          simp [hz']
        · obtain ⟨x, z, hx, hz, hyz⟩ := f2 j y hj
          have hz' : us[j]? = some z := by simpa using hz
          have : us.getD j Go.undef = z := by simp [hz']
          rw [this]
          exact hmv x (by simp [hx]) y z hyz
        · obtain ⟨x, z, hx, hz, _⟩ := c2 j y hj
          have hz' : vs[j]? = some z := by simpa using hz
          simp [hz']
        · obtain ⟨x, z, hx, hz, hyz⟩ := c2 j y hj
          have hz' : vs[j]? = some z := by simpa using hz
          have : vs.getD j Go.undef = z := by simp [hz']
          rw [this]
          exact hmv x (by simp [hx]) y z hyz
      refine ⟨⟨_, _, w, blk', fun _ => none, run_asNext (u := .func (.func g) us vs) (by simp [Instr.makeFunc]), .inl rfl, Grow.refl _ _, quiet_pend k1 (.flat _ _ _ (.val _ _ hrep)), subHas k2, fun c k hk => by cases hk⟩⟩
    · exact (Q.holds_no hr).elim
  · exact (Q.holds_no hr).elim
end
end Go.Ev

namespace Go.Ev

section
variable {P : Program} {w : World} {Oc : Nat → Prop} {st : Slots} {tm : Nat → Value} {blk : Blk} {r : List Edit × SV}

/-- What is copied, in memory. -/
theorem copy_src (h : SRel w Oc st tm blk) {e u : TypeId} {d : TypeDesc} (hud : P.underlying u = some d) (hni : ∀ k, d ≠ .int k) {b : Arg} {x : Value} {ys : List PV} (hb : ArgRep w (blk.off Oc) st tm b x) (hs : copySrc P e b = some ys) :
    ∃ news : List Value, (∀ w1, (Builtin.lenOf x).run P w1 = .ok ys.length w1) ∧ RowSrc w (blk.off Oc) none ys news ∧ (∀ v ∈ news, v.oneCell' = true) ∧
      ∀ k, k ≤ ys.length → ∀ w1 : World, w1.heap = w.heap → (Builtin.firstCells 1 k x).run P w1 = .ok (news.take k).toArray w1 := by
  unfold copySrc at hs
  split at hs
  · rename_i s hbs
    split at hs
    · cases hs
      obtain ⟨bs, rfl, rfl⟩ := (hb.val hbs).str_inv
      obtain ⟨news, n1, n2, n3⟩ := text_src3 (w := w) (O := blk.off Oc) hud hni bs
      exact ⟨news, n1.len, n2, n1.one, fun k _ w1 _ => n3 k w1⟩
    · cases hs
  · split at hs
    · cases hs
    · rename_i hno
      split at hs
      · rename_i xs hrow
        cases hs
        obtain ⟨news, n1, n2, n3⟩ := (arg_mem h hb hrow (fun cs e => hno cs e)).src3 hud hni
        refine ⟨news, n1.len, n2, n1.one, fun k hk w1 hw1 => ?_⟩
        have := n3 k hk w1 hw1
        simpa [shN] using this
      · cases hs

theorem getElem_splice (xs ys : List PV) (l n : Nat) (hl : l + n ≤ xs.length) (hn : n ≤ ys.length) (i : Nat) :
    (xs.take l ++ ys.take n ++ xs.drop (l + n))[i]? = if i < l then xs[i]? else if i < l + n then ys[i - l]? else xs[i]? := by
  have l1 : (xs.take l).length = l := by rw [List.length_take]; omega
  have l2 : (ys.take n).length = n := by rw [List.length_take]; omega
  by_cases h1 : i < l
  · rw [if_pos h1, List.append_assoc, List.getElem?_append_left (by omega), List.getElem?_take, if_pos h1]
  · rw [if_neg h1]
    by_cases h2 : i < l + n
    · rw [if_pos h2, List.append_assoc, List.getElem?_append_right (by omega), List.getElem?_append_left (by omega), l1, List.getElem?_take, if_pos (by omega)]
    · rw [if_neg h2, List.getElem?_append_right (by simp; omega), List.getElem?_drop]
      congr 1
      simp
      omega

theorem sim_copy (h : SRel w Oc st tm blk) {a b : Arg} {v x : Value} {t u ty : TypeId} (hu : u = t ∨ P.underlying u = some .string) (ha : ArgRep w (blk.off Oc) st tm a v) (hb : ArgRep w (blk.off Oc) st tm b x)
    (hr : (cCopy P t a b).holds r) : Gives P (asNext (Builtin.copy_ #[t, u] ty #[v, x])) w Oc st tm blk r := by
  obtain ⟨sv, rt⟩ := a
  unfold cCopy at hr
  split at hr
  · exact (Q.holds_no hr).elim
  · rename_i e he
    have hut := tElem_spec he
    have hud : ∃ d, P.underlying u = some d ∧ ∀ k, d ≠ .int k := by
      rcases hu with rfl | hu
      · exact ⟨_, hut, by simp⟩
      · exact ⟨_, hu, by simp⟩
    obtain ⟨d, hud, hni⟩ := hud
    split at hr
    · rename_i x1 x2 x3 x4 s c l h' s' o ys hs hsv hrt hsrc
      dsimp only at hsv hrt
      subst hsv hrt
      obtain ⟨ie, hi, hsz⟩ := tShape_size hs
      have hsz : ie.size = 1 := hsz
      split at hr
      · rename_i xs sp hx
        split at hr
        · rename_i o' ho
          obtain ⟨rfl, hcs⟩ := holds_list hr
          have hne : 0 < xs.length := by
            have := hcs _ (List.mem_singleton.mpr rfl)
            rw [Nat.blt_eq] at this
            exact this
          cases ha.slot rfl
          obtain ⟨hg, _⟩ := ha.home
          obtain ⟨v1, v2, z, hp, hv⟩ := ha.rep.2 _ _ _ _ hg hx
          obtain ⟨bb, hf, hown⟩ := own_at h hg hx hp
          obtain ⟨news, m1, m2, m3, m4⟩ := copy_src h hud hni hb hsrc
          obtain ⟨n, hn⟩ : ∃ n, Nat.min ys.length (h' - l) = n := ⟨_, rfl⟩
          have hn1 : n ≤ ys.length := by rw [← hn]; exact Nat.min_le_left _ _
          have hn2 : n ≤ h' - l := by rw [← hn]; exact Nat.min_le_right _ _
          rw [hn] at ho ⊢
          cases hf with
          | ownE => simp at hne
          | own _ _ _ b2 c2 cur ty' fr us how =>
            have hlen := how.len
            have hsize : c2 ≤ cur.size := by have := how.size; simpa [shN] using this
            have hnl : news.length = ys.length := by have := m2.len; simpa [shN] using this
            have hnt : (news.take n).length = n := by rw [List.length_take]; omega
            let cur' := (cur.toList.take l ++ news.take n ++ cur.toList.drop (l + n)).toArray
            have hcur' : ∀ q, cur'[q]? = if q < l then cur[q]? else if q < l + n then news[q - l]? else cur[q]? := by
              intro q
              have := splice_get_array cur (news.take n).toArray l (by simp [hnt]; omega) q
              simp only [List.size_toArray, hnt, List.getElem?_toArray] at this
              rw [show cur' = (cur.toList.take l ++ (news.take n) ++ cur.toList.drop (l + n)).toArray from rfl]
              rw [List.getElem?_toArray, this]
              split
              · rfl
              · split
                · rw [List.getElem?_take, if_pos (by omega)]
                · rfl
            have hcs' : cur'.size = cur.size := by
              simp only [cur', List.size_toArray, List.length_append, hnt, List.length_take, List.length_drop, Array.length_toList]
              omega
            have hrun : (Builtin.copy_ #[t, u] ty #[v, x]).run P w = .ok (.int .i64 (n : Int)) (w.setRow b2 cur') := by
              have hfc := m4 n hn1 w rfl
              have key : ∀ A c', v = .slice A (h' - l) c' → ((match A with | some a => storeCells a (news.take n) | none => (pure () : Sem Unit)).run P w = .ok () (w.setRow b2 cur')) → (Builtin.copy_ #[t, u] ty #[v, x]).run P w = .ok (.int .i64 (n : Int)) (w.setRow b2 cur') := by
                rintro A c' rfl hst
                unfold Builtin.copy_
                simp only [List.getElem?_toArray, List.getElem?_cons_zero, List.getElem?_cons_succ, Sem.run_bind, run_underlying' hut, Result.andThen_ok, m1 w, run_sizeOf' hi, hsz, hn, hfc]
                cases A with
                | none =>
                  simp only [Sem.run_pure, Result.ok.injEq, true_and] at hst
                  simp only [Sem.run_pure, goInt]
                  rw [← hst]
                | some a =>
                  simp only [Sem.run_bind, hst, Result.andThen_ok, Sem.run_pure, goInt]
              rcases hv with ⟨b, q0, cap, c', q1, q2, q3, q4, q5⟩ | ⟨q1, A', c', q3, q4⟩
              · simp only [Value.slice.injEq, Option.some.injEq, Addr.mk.injEq] at q2
                obtain ⟨⟨rfl, _⟩, _, _⟩ := q2
                refine key _ _ q3 ?_
                have := run_storeCells_thawed (P := P) b2 l ty' fr (news.take n) 0 cur w how.heap how.thaw (by rw [hnt]; omega) (fun y hy => m3 y (List.mem_of_mem_take hy))
                simp only [Nat.add_zero, hnt] at this
                show (storeCells ⟨b2, l * 1, none⟩ (news.take n)).run P w = _
                rw [Nat.mul_one]
                exact this
              · have n0 : n = 0 := by omega
                subst q1
                rw [show h' - h' = 0 from Nat.sub_self _] at key
                refine key _ _ q3 ?_
                have e0 : w.setRow b2 cur' = w := by
                  have : cur' = cur := by
                    simp only [cur', n0, List.take_zero, List.append_nil, Nat.add_zero, List.take_append_drop, Array.toArray_toList]
                  rw [this]
                  exact setRow_self w b2 cur ty' fr how.heap
                rw [e0, n0]
                cases A' <;> simp [storeCells]
            have hwo : ∀ k, k ≠ b2 → (w.setRow b2 cur').heap[k]? = w.heap[k]? := fun k hk => setRow_other w b2 k cur' hk
            have hwsize : (w.setRow b2 cur').heap.size = w.heap.size := by simp [World.setRow]
            have hpl := hown b2 rfl
            have hat : ∃ cc, blk s cc = some b2 := by
              cases c with
              | none => exact hpl
              | some j => exact ⟨_, hpl⟩
            have hoff : (blk.off Oc) b2 := .inl ⟨s, hat⟩
            have hmv : ∀ k, k < w.heap.size → ¬ (blk.off Oc) k → (w.setRow b2 cur').heap[k]? = w.heap[k]? ∧ ¬ (blk.off Oc) k := fun k _ hno => ⟨hwo k fun e => hno (by rw [e]; exact hoff), hno⟩
            have hxl : (xs.take l ++ ys.take n ++ xs.drop (l + n)).length = xs.length := by
              simp only [List.length_append, List.length_take, List.length_drop]; omega
            have hsp := getElem_splice xs ys l n (by omega) hn1
            have hrow : RowIn (w.setRow b2 cur') (blk.off Oc) none (xs.take l ++ ys.take n ++ xs.drop (l + n)) cur' := by
              refine ⟨fun i y hy => ?_, fun i y j d hy hd => ?_, fun i y j d hy hd => ?_⟩
              all_goals
                rw [hsp] at hy
                split at hy
              · exact how.fits _ _ hy
              · split at hy
                · exact m2.fits _ _ hy
                · exact how.fits _ _ hy
              · exact how.cell _ _ _ _ hy hd
              · split at hy
                · exact m2.cell _ _ _ _ hy hd
                · exact how.cell _ _ _ _ hy hd
              · rename_i hlt
                have hj : j < shN none := by rw [← cells_length (how.fits _ _ hy)]; exact (List.getElem?_eq_some_iff.1 hd).1
                have hj : j = 0 := by simp [shN] at hj; exact hj
                subst hj
                refine ⟨us i 0, ?_, (how.rep _ _ _ _ hy hd).move hmv⟩
                have := how.at_ _ _ _ _ hy hd
                simp only [shN, Nat.mul_one, Nat.add_zero] at this ⊢
                rw [hcur', if_pos hlt]
                exact this
              · rename_i hlt
                split at hy
                · rename_i hlt2
                  have hj : j < shN none := by rw [← cells_length (m2.fits _ _ hy)]; exact (List.getElem?_eq_some_iff.1 hd).1
                  have hj : j = 0 := by simp [shN] at hj; exact hj
                  subst hj
                  obtain ⟨z', z1, z2⟩ := m2.rep _ _ _ _ hy hd
                  refine ⟨z', ?_, z2.move hmv⟩
                  simp only [shN, Nat.mul_one, Nat.add_zero] at z1 ⊢
                  rw [hcur', if_neg hlt, if_pos hlt2]
                  exact z1
                · rename_i hlt2
                  have hj : j < shN none := by rw [← cells_length (how.fits _ _ hy)]; exact (List.getElem?_eq_some_iff.1 hd).1
                  have hj : j = 0 := by simp [shN] at hj; exact hj
                  subst hj
                  refine ⟨us i 0, ?_, (how.rep _ _ _ _ hy hd).move hmv⟩
                  have := how.at_ _ _ _ _ hy hd
                  simp only [shN, Nat.mul_one, Nat.add_zero] at this ⊢
                  rw [hcur', if_neg hlt, if_neg hlt2]
                  exact this
            have hnew : FRep (w.setRow b2 cur') (blk.off Oc) (.own none (xs.take l ++ ys.take n ++ xs.drop (l + n)) []) (.slice (some ⟨b2, 0, none⟩) xs.length c2) (some b2) := by
              have := hrow.own (b := b2) (c := c2) (setRow_heap w b2 cur cur' ty' fr how.heap) (how.thaw.size (by omega)) (by simp [shN]; omega) (by rw [hxl]; exact how.len) how.capL
              rw [hxl] at this
              exact this
            have hrep := h.rep s
            rw [hg] at hrep
            have key := SRel.edit (w' := w.setRow b2 cur') (Oc' := Oc) h ⟨s, .home o', .no⟩ (tm s) (blk s) (by rw [hwsize]; exact Nat.le_refl _)
              (fun k _ _ hno => hwo k fun e => hno (by rw [e]; exact hat)) (fun k _ hk => .inl hk)
              (fun cc k hk => ⟨.inl ⟨cc, hk⟩, (h.out _ _ _ hk).1, by rw [hwsize]; exact (h.out _ _ _ hk).2⟩)
              (fun cc cc' k h1 h2 => (h.inj _ _ _ _ _ h1 h2).2)
              (by
                rw [updN_self]
                show ORep _ _ _ _ _ _
                rcases setRow_at hx ho with ⟨rfl, rfl, rfl⟩ | ⟨j, k, cs, rfl, rfl, hj, rfl⟩
                · have hz := hp.top_eq
                  obtain ⟨hf0, hβ⟩ := (show ORep w (blk.off Oc) (.flat (.own none xs sp)) (tm s) (blk s none) (fun j => blk s (some j)) from hrep).flat_inv
                  have hbn : blk s none = some b2 := by
                    rw [← hz] at hf0
                    exact hf0.own_block (by rintro rfl; simp at hne)
                  have e1 : (fun j => blk s (some j)) = fun _ => none := funext hβ
                  rw [e1, hbn, ← hz]
                  exact .flat _ _ _ hnew
                · have hpl : blk s (some j) = some b2 := hpl
                  refine ORep.rerow hrep hj hp (fun e => ?_) (fun q hqj e => ?_) hwo (fun k hno => ⟨fun e => hno (by rw [e]; exact hoff), hno⟩) (by rw [hpl]; exact hnew) trivial rfl
                  · have := (h.inj _ _ _ _ _ e hpl).2; cases this
                  · have := (h.inj _ _ _ _ _ e hpl).2
                    simp only [Option.some.injEq] at this
                    exact hqj this)
              (fun t' ht' hroot hv' => by
                rw [updN_self, updN_self]
                have e0 : ((Cut.no).on s st) = st := rfl
                rw [show (Edit.mk s (.home o') Cut.no).cut.on s st = st from rfl] at hroot ⊢
                refine alias_row hv' hroot hg (by rw [get_edit]; simp) rfl hx ho (by rw [hxl]) (fun q bb hc hbb => ?_)
                cases c with
                | none => exact absurd rfl hc
                | some j =>
                  obtain ⟨k, cs, f, rfl, hj, _⟩ := at_cont hx
                  have hm := ORep.block hrep (by rintro rfl; simp at hj) bb hbb
                  have hne : bb ≠ b2 := by
                    rintro rfl
                    have := (h.inj _ _ _ _ _ hm (show blk s (some j) = some bb from hpl)).2
                    cases this
                  exact cell_same (hwo bb hne))
            rw [updN_self, updN_self] at key
            exact ⟨⟨_, .int .i64 n, _, blk, fun _ => none, run_asNext hrun, .inl rfl, ⟨rfl, rfl, rfl, by rw [hwsize]; exact Nat.le_refl _, fun k _ hk => hwo k fun e => hk (by rw [e]; exact ⟨s, hat⟩)⟩,
              quiet_pend key (.flat _ _ _ (.val _ _ (.int _ _))), subHas (fun _ _ _ x => x), fun _ _ q => by cases q⟩⟩
        · exact (Q.holds_no hr).elim
      · exact (Q.holds_no hr).elim
    · exact (Q.holds_no hr).elim

end
end Go.Ev

namespace Go.Ev

section
variable {P : Program} {w : World} {Oc : Nat → Prop} {st : Slots} {tm : Nat → Value} {blk : Blk} {r : List Edit × SV}

theorem map_toList {α β : Type} (f : α → β) (xs : Array α) : (xs.map f).toList = xs.toList.map f := by simp

theorem compute_sim (h : SRel w Oc st tm blk) (hOc : ∀ k, Oc k → k < w.heap.size) {act : Act} (hact : ∀ t, act.tmps.getD t Go.undef = tm t) {o : Oper} (hr : (compute P o st).holds r) :
    Gives P (execOp act.eval o) w Oc st tm blk r := by
  have F : ∀ {t : TypeId} {x : Operand} {a : Arg}, fetch P st t x = some a → ArgRep w (blk.off Oc) st tm a (act.eval x) := fun hf => fetch_rep h hf act hact
  unfold compute at hr
  split at hr
  · rename_i x ho
    obtain ⟨a, ha, hr'⟩ := Q.holds_withA hr
    exact sim_move h (F ha) hr' (by simp [execOp, ho])
  · rename_i x ho
    obtain ⟨a, ha, hr'⟩ := Q.holds_withA hr
    exact sim_assign h (F ha) hr' (by simp [execOp, ho])
  · rename_i c x y ho
    obtain ⟨b, hb, hr'⟩ := Q.holds_withA hr
    have hrun : ∀ (v : Bool), act.eval c = .bool v → (execOp act.eval o).run P w = .ok (.value (if v then act.eval x else act.eval y)) w := by
      intro v hv
      simp [execOp, ho, hv, asBool]
    split at hr'
    · rename_i hbt
      obtain ⟨a, ha, hr2⟩ := Q.holds_withA hr'
      exact sim_move h (F ha) hr2 (by rw [hrun true ((F hb).bool hbt)]; rfl)
    · rename_i hbt
      obtain ⟨a, ha, hr2⟩ := Q.holds_withA hr'
      exact sim_move h (F ha) hr2 (by rw [hrun false ((F hb).bool hbt)]; rfl)
    · exact (Q.holds_no hr').elim
  · rename_i t ho
    have := sim_alloc h hOc hr
    simpa [execOp, ho] using this
  · rename_i t x ho
    obtain ⟨a, ha, hr'⟩ := Q.holds_withA hr
    have := sim_box h hOc (F ha) hr'
    simpa [execOp, ho] using this
  · rename_i t ps ho
    obtain ⟨a, ha, hr'⟩ := Q.holds_withA hr
    have hp := fetchParts_rep h act hact _ _ _ ha
    have := sim_build h (us := ps.map fun (i, x) => (i, act.eval x)) (by rw [map_toList]; exact hp) hr'
    simpa [execOp, ho] using this
  · rename_i t n ps ho
    obtain ⟨a, ha, hr'⟩ := Q.holds_withA hr
    have hp := fetchParts_rep h act hact _ _ _ ha
    have := sim_buildSlice h hOc (us := ps.map fun (i, x) => (i, act.eval x)) (by rw [map_toList]; exact hp) hr'
    simpa [execOp, ho] using this
  · rename_i t x ho
    obtain ⟨a, ha, hr'⟩ := Q.holds_withA hr
    have := sim_load h (F ha) hr'
    simpa [execOp, ho] using this
  · rename_i t x y ho
    obtain ⟨a, ha, hr'⟩ := Q.holds_withA hr
    obtain ⟨b, hb, hr2⟩ := Q.holds_withA hr'
    have := sim_store h (F ha) (F hb) hr2
    simpa [execOp, ho] using this
  · rename_i x ho
    obtain ⟨a, ha, hr'⟩ := Q.holds_withA hr
    exact sim_nilCheck h (F ha) hr' fun hn => run_nilCheck ho rfl hn
  · rename_i op xt x y yt ho
    obtain ⟨a, ha, hr'⟩ := Q.holds_withA hr
    obtain ⟨b, hb, hr2⟩ := Q.holds_withA hr'
    have := sim_bin (x := x) (y := y) h (F ha) (F hb) hr2
    simpa [execOp, ho] using this
  · rename_i op t x ho
    obtain ⟨a, ha, hr'⟩ := Q.holds_withA hr
    have := sim_un (P := P) h (F ha) hr'
    simpa [execOp, ho] using this
  · rename_i s d x ho
    obtain ⟨a, ha, hr'⟩ := Q.holds_withA hr
    have := sim_convert h hOc (F ha) hr'
    simpa [execOp, ho] using this
  · rename_i f fs cs ho
    obtain ⟨a, ha, hr'⟩ := Q.holds_withA hr
    obtain ⟨b, hb, hr2⟩ := Q.holds_withA hr'
    have := sim_makeFunc (P := P) (us := fs.map act.eval) (vs := cs.map act.eval) h (by rw [map_toList]; exact fetchAll_rep h act hact _ _ _ ha) (by rw [map_toList]; exact fetchAll_rep h act hact _ _ _ hb) hr2
    simpa [execOp, ho] using this
  · rename_i t n m ho
    obtain ⟨a, ha, hr'⟩ := Q.holds_withA hr
    obtain ⟨b, hb, hr2⟩ := Q.holds_withA hr'
    have := sim_makeSlice h hOc (F ha) (F hb) hr2
    simpa [execOp, ho] using this
  · rename_i t x lo hi mx ho
    obtain ⟨a, ha, hr'⟩ := Q.holds_withA hr
    obtain ⟨l, hl, hr2⟩ := Q.holds_withA hr'
    obtain ⟨hh, hhi, hr3⟩ := Q.holds_withA hr2
    obtain ⟨m, hm, hr4⟩ := Q.holds_withA hr3
    have := sim_slice h (F ha) (optInt_rep h act hact hl) (optInt_rep h act hact hhi) (optInt_rep h act hact hm) hr4
    simpa [execOp, ho] using this
  · rename_i t x f ho
    obtain ⟨a, ha, hr'⟩ := Q.holds_withA hr
    have := sim_fieldAddr h (F ha) hr'
    simpa [execOp, ho] using this
  · rename_i t x f ho
    obtain ⟨a, ha, hr'⟩ := Q.holds_withA hr
    have := sim_field h (F ha) hr'
    simpa [execOp, ho] using this
  · rename_i t x i ho
    obtain ⟨a, ha, hr'⟩ := Q.holds_withA hr
    obtain ⟨b, hb, hr2⟩ := Q.holds_withA hr'
    have := sim_indexAddr h (F ha) (F hb) hr2
    simpa [execOp, ho] using this
  · rename_i t x i ho
    obtain ⟨a, ha, hr'⟩ := Q.holds_withA hr
    obtain ⟨b, hb, hr2⟩ := Q.holds_withA hr'
    have := sim_index h (F ha) (F hb) hr2
    simpa [execOp, ho] using this
  · rename_i x i ho
    obtain ⟨a, ha, hr'⟩ := Q.holds_withA hr
    have := sim_extract (P := P) h (F ha) hr'
    simpa [execOp, ho] using this
  · rename_i c ho
    obtain ⟨callee, args, tys⟩ := c
    split at hr
    · rename_i hcal
      dsimp only at hcal hr
      subst hcal
      split at hr
      · rename_i t x ht hx
        obtain ⟨a, ha, hr'⟩ := Q.holds_withA hr
        have := sim_len (ty := o.type) h (F ha) hr'
        have e1 : tys = #[t] := by cases tys; simp_all
        have e2 : args = #[x] := by cases args; simp_all
        subst e1; subst e2
        simpa [execOp, ho, resolve, invoke, builtin] using this
      · exact (Q.holds_no hr).elim
    · rename_i hcal
      dsimp only at hcal hr
      subst hcal
      split at hr
      · rename_i t u x y ht hx
        have e1 : tys = #[t, u] := by cases tys; simp_all
        have e2 : args = #[x, y] := by cases args; simp_all
        subst e1; subst e2
        split at hr
        · rename_i htu
          cases Nat.eq_of_beq_eq_true htu
          obtain ⟨a, ha, hr'⟩ := Q.holds_withA hr
          obtain ⟨b, hb, hr2⟩ := Q.holds_withA hr'
          have := sim_append (P := P) (ty := o.type) h hOc (.inl rfl) (F ha) (F hb) hr2
          simpa [execOp, ho, resolve, invoke, builtin] using this
        · split at hr
          · rename_i hu
            obtain ⟨a, ha, hr'⟩ := Q.holds_withA hr
            obtain ⟨b, hb, hr2⟩ := Q.holds_withA hr'
            have := sim_append (P := P) (ty := o.type) h hOc (.inr hu) (F ha) (F hb) hr2
            simpa [execOp, ho, resolve, invoke, builtin] using this
          · exact (Q.holds_no hr).elim
      · exact (Q.holds_no hr).elim
    · rename_i hcal
      dsimp only at hcal hr
      subst hcal
      split at hr
      · rename_i t u x y ht hx
        have e1 : tys = #[t, u] := by cases tys; simp_all
        have e2 : args = #[x, y] := by cases args; simp_all
        subst e1; subst e2
        split at hr
        · rename_i htu
          cases Nat.eq_of_beq_eq_true htu
          obtain ⟨a, ha, hr'⟩ := Q.holds_withA hr
          obtain ⟨b, hb, hr2⟩ := Q.holds_withA hr'
          have := sim_copy (P := P) (ty := o.type) h (.inl rfl) (F ha) (F hb) hr2
          simpa [execOp, ho, resolve, invoke, builtin] using this
        · split at hr
          · rename_i hu
            obtain ⟨a, ha, hr'⟩ := Q.holds_withA hr
            obtain ⟨b, hb, hr2⟩ := Q.holds_withA hr'
            have := sim_copy (P := P) (ty := o.type) h (.inr hu) (F ha) (F hb) hr2
            simpa [execOp, ho, resolve, invoke, builtin] using this
          · exact (Q.holds_no hr).elim
      · exact (Q.holds_no hr).elim
    · rename_i hcal
      dsimp only at hcal hr
      subst hcal
      split at hr
      · rename_i x y hx
        have e2 : args = #[x, y] := by cases args; simp_all
        subst e2
        obtain ⟨a, ha, hr'⟩ := Q.holds_withA hr
        obtain ⟨b, hb, hr2⟩ := Q.holds_withA hr'
        have := sim_min (P := P) (ts := tys) (t := o.type) h (F ha) (F hb) hr2
        simpa [execOp, ho, resolve, invoke, builtin] using this
      · exact (Q.holds_no hr).elim
    · rename_i hcal
      dsimp only at hcal hr
      subst hcal
      split at hr
      · rename_i x y hx
        have e2 : args = #[x, y] := by cases args; simp_all
        subst e2
        obtain ⟨a, ha, hr'⟩ := Q.holds_withA hr
        obtain ⟨b, hb, hr2⟩ := Q.holds_withA hr'
        have := sim_max (P := P) (ts := tys) (t := o.type) h (F ha) (F hb) hr2
        simpa [execOp, ho, resolve, invoke, builtin] using this
      · exact (Q.holds_no hr).elim
    · exact (Q.holds_no hr).elim
  · exact (Q.holds_no hr).elim
end
end Go.Ev

namespace Go.Ev

/-- Two lists of slots say the same. -/
def Same (a b : Slots) : Prop := ∀ t, a.get t = b.get t
theorem Same.refl (a : Slots) : Same a a := fun _ => rfl
theorem Same.symm {a b : Slots} (h : Same a b) : Same b a := fun t => (h t).symm
theorem Same.trans {a b c : Slots} (h : Same a b) (g : Same b c) : Same a c := fun t => (h t).trans (g t)

/-- A cut, of what stands in one slot. -/
def Cut.one (k : Cut) (s : Nat) (v : SV) : SV := match k with
  | .no => v
  | .all => SV.cutAll s v
  | .cells lo n => SV.cutCells s lo n v
theorem get_cut (k : Cut) (s : Nat) (st : Slots) (t : Nat) : (k.on s st).get t = k.one s (st.get t) := by
  rw [get_on]; cases k <;> rfl
theorem get_e (e : Edit) (st : Slots) (t : Nat) : (e.on st).get t = if t = e.s then e.v else e.cut.one e.s (st.get t) := by rw [get_edit, get_cut]
theorem Cut.one_dead (k : Cut) (s : Nat) : k.one s .dead = .dead := by cases k <;> rfl
/-- A cut leaves what stands there, or nothing. -/
theorem Cut.one_or (k : Cut) (s : Nat) (v : SV) : k.one s v = v ∨ k.one s v = .dead := by
  cases k with
  | no => exact .inl rfl
  | all =>
    simp only [Cut.one, SV.cutAll]
    split
    · split
      · exact .inr rfl
      · exact .inl rfl
    · exact .inl rfl
  | cells lo n =>
    simp only [Cut.one, SV.cutCells]
    split
    · split
      · exact .inr rfl
      · exact .inl rfl
    · exact .inl rfl
theorem Cut.one_idem (k : Cut) (s : Nat) (v : SV) : k.one s (k.one s v) = k.one s v := by
  rcases k.one_or s v with h | h
  · rw [h, h]
  · rw [h, Cut.one_dead]
theorem Cut.one_comm (k l : Cut) (s t : Nat) (v : SV) : k.one s (l.one t v) = l.one t (k.one s v) := by
  rcases k.one_or s v with h | h <;> rcases l.one_or t v with g | g
  · rw [h, g, h]
  · rw [h, g, Cut.one_dead]
  · rw [h, g, h, Cut.one_dead]
  · rw [h, g, Cut.one_dead, Cut.one_dead]
/-- Not rooted at the slot that is cut: it stays. -/
theorem Cut.one_far (k : Cut) (s : Nat) {v : SV} (h : v.root ≠ some s) : k.one s v = v := by
  cases k with
  | no => rfl
  | all =>
    simp only [Cut.one, SV.cutAll]
    split
    · rename_i r hr
      rw [nbeq fun e => h (by rw [hr, e])]
    · rfl
  | cells lo n =>
    simp only [Cut.one, SV.cutCells]
    split
    · rename_i r c m hr
      have hroot : v.root = some r := by
        cases v with
        | ref a b => cases b <;> simp_all [SV.root, SV.rootc]
        | adre a b i o => cases b <;> simp_all [SV.root, SV.rootc]
        | view a b i o => cases b <;> simp_all [SV.root, SV.rootc]
        | rng a b c => simp_all [SV.root, SV.rootc]
        | _ => simp_all [SV.root, SV.rootc]
      have : Nat.beq r s = false := nbeq fun e => h (by rw [hroot, e])
      simp [this]
    · rfl

theorem on_congr {a b : Slots} (h : Same a b) (e : Edit) : Same (e.on a) (e.on b) := by
  intro t
  rw [get_e, get_e, h t]
theorem edits_congr {a b : Slots} (h : Same a b) : ∀ es : List Edit, Same (edits es a) (edits es b) := by
  intro es
  induction es generalizing a b with
  | nil => exact h
  | cons e es ih => exact ih (on_congr h e)
theorem on_comm {e f : Edit} (hs : e.s ≠ f.s) (he : e.v.root ≠ some f.s) (hf : f.v.root ≠ some e.s) (st : Slots) : Same (e.on (f.on st)) (f.on (e.on st)) := by
  intro t
  rw [get_e, get_e, get_e, get_e]
  by_cases h1 : t = e.s
  · rw [if_pos h1]
    by_cases h2 : t = f.s
    · exact absurd (h1.symm.trans h2) hs
    · rw [if_neg h2, if_pos h1, Cut.one_far _ _ he]
  · rw [if_neg h1]
    by_cases h2 : t = f.s
    · rw [if_pos h2, if_pos h2, Cut.one_far _ _ hf]
    · rw [if_neg h2, if_neg h2, if_neg h1, Cut.one_comm]
theorem on_edits_comm {e : Edit} : ∀ (fs : List Edit) (st : Slots), (∀ f ∈ fs, f.s ≠ e.s ∧ e.v.root ≠ some f.s ∧ f.v.root ≠ some e.s) → Same (e.on (edits fs st)) (edits fs (e.on st))
  | [], st, _ => Same.refl _
  | f :: fs, st, h => by
    obtain ⟨h1, h2, h3⟩ := h f (by simp)
    exact (on_edits_comm fs (f.on st) fun g hg => h g (by simp [hg])).trans (edits_congr (on_comm (fun x => h1 x.symm) h2 h3 st) fs)
theorem on_same {e p : Edit} (hs : p.s = e.s) (hc : p.cut = e.cut) (st : Slots) : Same (e.on (p.on st)) (e.on st) := by
  intro t
  rw [get_e, get_e, get_e, hs, hc]
  by_cases h1 : t = e.s
  · rw [if_pos h1, if_pos h1]
  · rw [if_neg h1, if_neg h1, if_neg h1, Cut.one_idem]
/-- Two rows of edits that touch other slots. -/
theorem edits_comm : ∀ (es fs : List Edit) (st : Slots), (∀ e ∈ es, ∀ f ∈ fs, f.s ≠ e.s ∧ e.v.root ≠ some f.s ∧ f.v.root ≠ some e.s) → Same (edits es (edits fs st)) (edits fs (edits es st))
  | [], fs, st, _ => Same.refl _
  | e :: es, fs, st, h => by
    have h1 := on_edits_comm (e := e) fs st fun f hf => h e (by simp) f hf
    exact (edits_congr h1 es).trans (edits_comm es fs (e.on st) fun x hx => h x (by simp [hx]))

/-- What is taken first, and put back behind. -/
inductive Twofold : List Edit → List Edit → List Edit → Prop
  | nil : Twofold [] [] []
  | once (e : Edit) (es ps bs : List Edit) (h : Twofold es ps bs) : Twofold (e :: es) (e :: ps) bs
  | twice (e p : Edit) (es ps bs : List Edit) (hs : p.s = e.s) (hc : p.cut = e.cut) (h : Twofold es ps bs) : Twofold (e :: es) (p :: ps) (e :: bs)
theorem Twofold.append : ∀ {es ps bs es' ps' bs' : List Edit}, Twofold es ps bs → Twofold es' ps' bs' → Twofold (es ++ es') (ps ++ ps') (bs ++ bs')
  | _, _, _, _, _, _, .nil, h => h
  | _, _, _, _, _, _, .once e es ps bs h, g => .once e _ _ _ (h.append g)
  | _, _, _, _, _, _, .twice e p es ps bs hs hc h, g => .twice e p _ _ _ hs hc (h.append g)
theorem Twofold.slots : ∀ {es ps bs : List Edit}, Twofold es ps bs → (ps.map (·.s) = es.map (·.s)) ∧ (∀ b ∈ bs, b ∈ es)
  | _, _, _, .nil => ⟨rfl, fun b hb => hb⟩
  | _, _, _, .once e es ps bs h => by
    obtain ⟨h1, h2⟩ := h.slots
    exact ⟨by simp [h1], fun b hb => by simp [h2 b hb]⟩
  | _, _, _, .twice e p es ps bs hs hc h => by
    obtain ⟨h1, h2⟩ := h.slots
    refine ⟨by simp [h1, hs], fun b hb => ?_⟩
    rcases List.mem_cons.1 hb with rfl | hb
    · simp
    · simp [h2 b hb]
/-- Each edit lays a home, or nothing. -/
def Rootless (es : List Edit) : Prop := ∀ e ∈ es, e.v.root = none
theorem Twofold.same : ∀ {es ps bs : List Edit}, Twofold es ps bs → onceEach es = true → Rootless es → Rootless ps → ∀ st, Same (edits es st) (edits bs (edits ps st))
  | _, _, _, .nil, _, _, _, st => Same.refl _
  | _, _, _, .once e es ps bs h, ho, hr, hp, st => by
    simp only [onceEach, Bool.and_eq_true] at ho
    exact h.same ho.2 (fun x hx => hr x (by simp [hx])) (fun x hx => hp x (by simp [hx])) _
  | _, _, _, .twice e p es ps bs hs hc h, ho, hr, hp, st => by
    simp only [onceEach, Bool.and_eq_true] at ho
    have hp' : Rootless ps := fun x hx => hp x (by simp [hx])
    have ih := h.same ho.2 (fun x hx => hr x (by simp [hx])) hp' (e.on st)
    have hps : ∀ f ∈ ps, f.s ≠ e.s := by
      intro f hf he
      have : f.s ∈ es.map (·.s) := by rw [← h.slots.1]; exact List.mem_map.2 ⟨f, hf, rfl⟩
      rw [he] at this
      exact (notOn_iff.1 ho.1) this
    refine ih.trans ?_
    show Same (edits bs (edits ps (e.on st))) (edits bs (e.on (edits ps (p.on st))))
    refine edits_congr ?_ bs
    refine Same.symm ?_
    refine (on_edits_comm ps (p.on st) fun f hf => ⟨hps f hf, by rw [hr e (by simp)]; simp, by rw [hp' f hf]; simp⟩).trans ?_
    exact edits_congr (on_same hs hc st) ps

end Go.Ev

namespace Go.Ev

section
variable {P : Program} {w w' : World} {O O' : Nat → Prop}

/-- A number, a bool, a text. -/
def PV.isPlain : PV → Prop
  | .int _ _ => True
  | .bool _ => True
  | .str _ => True
  | _ => False
theorem RepV.plain {v : PV} {u : Value} (hp : v.isPlain) (h : RepV w O v u) : RepV w' O' v u := by
  cases v <;> simp [PV.isPlain] at hp
  · cases h; exact .bool _
  · cases h; exact .int _ _
  · cases h; exact .str _

theorem cellTys_plain : ∀ (d : Nat) (t : TypeId), tPlain P d t = true → ∀ ct ∈ cellTys P d t, P.underlying ct = some .bool ∨ (∃ k, P.underlying ct = some (.int k)) ∨ P.underlying ct = some .string
  | 0, t, h, _, _ => by simp [tPlain] at h
  | d + 1, t, h, ct, hct => by
    unfold tPlain at h
    unfold cellTys at hct
    split at h
    · rename_i hu; rw [hu] at hct; simp at hct; subst hct; exact .inl hu
    · rename_i k hu; rw [hu] at hct; simp at hct; subst hct; exact .inr (.inl ⟨k, hu⟩)
    · rename_i hu; rw [hu] at hct; simp at hct; subst hct; exact .inr (.inr hu)
    · rename_i fs hu
      rw [hu] at hct
      simp only [List.mem_flatMap] at hct
      obtain ⟨f, hf, hct⟩ := hct
      exact cellTys_plain d f.type (List.all_eq_true.1 h f hf) ct hct
    · rename_i n e hu
      rw [hu] at hct
      simp only [List.mem_flatten, List.mem_replicate] at hct
      obtain ⟨l, ⟨_, rfl⟩, hct⟩ := hct
      exact cellTys_plain d e h ct hct
    · cases h

theorem has1_plain {ct : TypeId} (h : P.underlying ct = some .bool ∨ (∃ k, P.underlying ct = some (.int k)) ∨ P.underlying ct = some .string) {v : PV} (hv : has1 P ct v = true) : v.isPlain := by
  unfold has1 at hv
  rcases h with h | ⟨k, h⟩ | h <;> rw [h] at hv <;> cases v <;> simp_all [PV.isPlain]

theorem hasCells_plain : ∀ (ts : List TypeId) (cs : List PV), (∀ ct ∈ ts, P.underlying ct = some .bool ∨ (∃ k, P.underlying ct = some (.int k)) ∨ P.underlying ct = some .string) → hasCells P ts cs = true → ∀ c ∈ cs, c.isPlain
  | [], cs, _, h, c, hc => by
    simp only [hasCells, List.isEmpty_iff] at h
    subst h; cases hc
  | t :: ts, [], _, h, c, hc => by cases hc
  | t :: ts, c :: cs, ht, h, x, hx => by
    simp only [hasCells, Bool.and_eq_true] at h
    rcases List.mem_cons.1 hx with rfl | hx
    · exact has1_plain (ht t (by simp)) h.1
    · exact hasCells_plain ts cs (fun ct hct => ht ct (by simp [hct])) h.2 x hx

/-- A value of a plain type says the same, whatever memory holds. -/
theorem plain_rep {t : TypeId} (hp : tPlain P 8 t = true) {v : PV} (hv : hasT P t v = true) {u : Value} (h : RepV w O v u) : RepV w' O' v u := by
  have hct := cellTys_plain 8 t hp
  unfold hasT at hv
  split at hv
  · rename_i n hs
    simp only [Bool.and_eq_true] at hv
    have hc := hasCells_plain _ _ hct hv.2
    cases v <;> simp [isAgg] at hv
    rename_i cs
    cases h with
    | agg _ vs us hl hk hm hr => exact .agg cs vs us hl hk hm fun j y hj => (hr j y hj).plain (hc y (List.mem_of_getElem? hj))
  · rename_i hs
    refine h.plain (has1_plain ?_ hv)
    unfold tPlain at hp
    split at hp
    · rename_i hu; exact .inl hu
    · rename_i k hu; exact .inr (.inl ⟨k, hu⟩)
    · rename_i hu; exact .inr (.inr hu)
    · rename_i fs hu
      exfalso
      obtain ⟨i, hi⟩ := info_of_underlying hu
      exact hs i.size (by simp [tShape, hi, hu])
    · rename_i n e hu
      exfalso
      obtain ⟨i, hi⟩ := info_of_underlying hu
      exact hs i.size (by simp [tShape, hi, hu])
    · cases hp

theorem cells_plain {t : TypeId} (hp : tPlain P 8 t = true) {v : PV} (hv : hasT P t v = true) : ∀ y ∈ v.cells, y.isPlain := by
  have hct := cellTys_plain 8 t hp
  unfold hasT at hv
  split at hv
  · rename_i n hs
    simp only [Bool.and_eq_true] at hv
    exact hasCells_plain _ _ hct hv.2
  · rename_i hs
    have hvp : v.isPlain := by
      refine has1_plain ?_ hv
      unfold tPlain at hp
      split at hp
      · rename_i hu; exact .inl hu
      · rename_i k hu; exact .inr (.inl ⟨k, hu⟩)
      · rename_i hu; exact .inr (.inr hu)
      · rename_i fs hu
        exfalso
        obtain ⟨i, hi⟩ := info_of_underlying hu
        exact hs i.size (by simp [tShape, hi, hu])
      · rename_i n e hu
        exfalso
        obtain ⟨i, hi⟩ := info_of_underlying hu
        exact hs i.size (by simp [tShape, hi, hu])
      · cases hp
    intro y hy
    cases v <;> simp_all [PV.cells, PV.isPlain]

/-- A part of a plain type, in whatever memory its own row lies. -/
def FV.typed (P : Program) (t : TypeId) : FV → Bool
  | .val v => hasT P t v
  | .own _ xs sp => okRow P t xs sp
  | _ => true
theorem FRep.plain {t : TypeId} {f : FV} {u : Value} {m : Option Nat} (hp : fvPlain P t f = true) (ht : f.typed P t = true) (h : FRep w O f u m) : FRep w O' f u m := by
  cases h with
  | val v u h => exact .val _ _ (plain_rep hp ht h)
  | nil sh => exact .nil sh
  | ownE sh A => exact .ownE sh A
  | own sh xs sp b c cur e fr us h =>
    simp only [fvPlain] at hp
    simp only [FV.typed, okRow] at ht
    cases he : tElem P t with
    | none => rw [he] at hp; cases hp
    | some et =>
      rw [he] at hp ht
      dsimp only at hp ht
      rw [hp] at ht
      simp only [Bool.and_eq_true, List.all_eq_true] at ht
      refine .own sh xs sp b c cur e fr us { heap := h.heap, thaw := h.thaw, size := h.size, len := h.len, fits := h.fits, cell := h.cell, at_ := h.at_, rep := fun i x j y h1 h2 => (h.rep i x j y h1 h2).plain (cells_plain hp (ht.1 x (List.mem_of_getElem? h1)) y (List.mem_of_getElem? h2)), spare := fun j y h1 => ?_, capL := h.capL, spL := h.spL }
      obtain ⟨v, v1, v2⟩ := h.spare j y h1
      exact ⟨v, v1, plain_rep hp (ht.2 y (List.mem_of_getElem? h1)) v2⟩
  | gone u => exact .gone u

/-- The cells of a struct or an array, each of its type. -/
def typedFs (P : Program) : List TypeId → List FV → Bool
  | t :: ts, f :: fs => f.typed P t && typedFs P ts fs
  | _, _ => true
def OV.typed (P : Program) (t : TypeId) : OV → Bool
  | .flat f => f.typed P t
  | .cont .agg cs => typedFs P (cellTys P 8 t) cs
  | .cont .nest cs => nestOk P t cs
  | _ => true
theorem nest_plain {t e : TypeId} {cs : List FV} (hn : nestElem P t = some e) (ht : nestOk P t cs = true) {j : Nat} {f : FV} (hj : cs[j]? = some f) : fvPlain P e f = true ∧ f.typed P e = true := by
  unfold nestOk at ht
  rw [hn] at ht
  have hc : nestCell P e f = true := List.all_eq_true.1 ht f (List.mem_of_getElem? hj)
  unfold nestElem at hn
  split at hn
  · split at hn
    · rename_i e1 _ e2 he2
      split at hn
      · rename_i hp
        cases hn
        cases f with
        | own sh xs sp => exact ⟨by simp [fvPlain, he2, hp], hc⟩
        | nil sh => exact ⟨rfl, rfl⟩
        | val => simp [nestCell] at hc
        | gone => simp [nestCell] at hc
      · cases hn
    · cases hn
  · cases hn
theorem fields_plain : ∀ (ts : List TypeId) (cs : List FV), fieldsPlain P ts cs = true → typedFs P ts cs = true → ∀ (j : Nat) (f : FV), cs[j]? = some f → ∃ t, fvPlain P t f = true ∧ f.typed P t = true
  | [], [], _, _, j, f, hj => by simp at hj
  | [], _ :: _, h, _, _, _, _ => by simp [fieldsPlain] at h
  | _ :: _, [], h, _, _, _, _ => by simp [fieldsPlain] at h
  | t :: ts, c :: cs, h, ht, j, f, hj => by
    simp only [fieldsPlain, Bool.and_eq_true] at h
    simp only [typedFs, Bool.and_eq_true] at ht
    cases j with
    | zero => simp at hj; subst hj; exact ⟨t, h.1, ht.1⟩
    | succ j => exact fields_plain ts cs h.2 ht.2 j f (by simpa using hj)
theorem ORep.plain {t : TypeId} {o : OV} {u : Value} {m : Option Nat} {β : Nat → Option Nat} (hp : ovPlain P t o = true) (ht : o.typed P t = true) (h : ORep w O o u m β) : ORep w O' o u m β := by
  cases h with
  | flat f u b h => exact .flat f u _ (h.plain hp ht)
  | agg cs us β hl hk h =>
    refine .agg cs us β hl hk ⟨fun j f hj => ?_, h.none_⟩
    obtain ⟨ct, h1, h2⟩ := fields_plain _ _ hp ht j f hj
    obtain ⟨z, z1, z2⟩ := h.rep j f hj
    exact ⟨z, z1, z2.plain h1 h2⟩
  | tup => simp [ovPlain] at hp
  | tn => simp [ovPlain] at hp
  | box => simp [ovPlain] at hp
  | nestE A => exact .nestE A
  | nest cs b c cur e fr β hb hth hl hc hk hg h =>
    obtain ⟨et, he⟩ := Option.isSome_iff_exists.1 (show (nestElem P t).isSome = true from hp)
    refine .nest cs b c cur e fr β hb hth hl hc hk hg ⟨fun j f hj => ?_, h.none_⟩
    obtain ⟨h1, h2⟩ := nest_plain he ht hj
    obtain ⟨z, z1, z2⟩ := h.rep j f hj
    exact ⟨z, z1, z2.plain h1 h2⟩

/-! #### results told by their form -/
theorem mkF_spec {t : TypeId} {own : Bool} {f : FV} (h : okF P t own f = true) : (∃ v, f = .val v ∧ mkF P t own f = f ∧ hasT P t v = true) ∨ ∃ sh xs sp, f = .own sh xs sp ∧ mkF P t own f = .own sh xs [] ∧ okRow P t xs [] = true := by
  unfold okF at h
  split at h
  · rename_i sh xs sp
    simp only [Bool.and_eq_true] at h
    right
    refine ⟨sh, xs, sp, rfl, ?_, h.2⟩
    simp [mkF, FV.xs, shEq_eq h.1]
  · rename_i v
    left
    exact ⟨v, rfl, by simp [mkF, FV.pv, etaT_eq h], h⟩
  · cases h
theorem FRep.noSpare {sh : Option Nat} {xs sp : List PV} {u : Value} {m : Option Nat} (h : FRep w O (.own sh xs sp) u m) : FRep w O (.own sh xs []) u m := by
  cases h with
  | ownE _ A => exact .ownE sh A
  | own _ _ _ b c cur e fr us h => exact .own sh xs [] b c cur e fr us { heap := h.heap, thaw := h.thaw, size := h.size, len := h.len, fits := h.fits, cell := h.cell, at_ := h.at_, rep := h.rep, spare := fun j y hj => by simp at hj, capL := h.capL, spL := by simpa using h.len }
theorem mkF_rep {t : TypeId} {own : Bool} {f : FV} {u : Value} {m : Option Nat} (ho : okF P t own f = true) (h : FRep w O f u m) : FRep w O (mkF P t own f) u m := by
  rcases mkF_spec ho with ⟨v, rfl, he, _⟩ | ⟨sh, xs, sp, rfl, he, _⟩
  · rw [he]; exact h
  · rw [he]; exact h.noSpare
theorem mkF_typed {t : TypeId} {own : Bool} {f : FV} (ho : okF P t own f = true) : (mkF P t own f).typed P t = true := by
  rcases mkF_spec ho with ⟨v, rfl, he, hv⟩ | ⟨sh, xs, sp, rfl, he, hv⟩
  · rw [he]; exact hv
  · rw [he]; exact hv
theorem mkF_ok {t : TypeId} {own : Bool} {f : FV} (ho : okF P t own f = true) : (f.cellOk → (mkF P t own f).cellOk) ∧ (mkF P t own f).whole = true := by
  rcases mkF_spec ho with ⟨v, rfl, he, hv⟩ | ⟨sh, xs, sp, rfl, he, hv⟩
  · rw [he]; exact ⟨id, rfl⟩
  · rw [he]; exact ⟨fun _ => trivial, rfl⟩
theorem mkFs_spec : ∀ (ts : List TypeId) (l : List Bool) (fs : List FV), okFs P ts l fs = true → (mkFs P ts l fs).length = fs.length ∧ typedFs P ts (mkFs P ts l fs) = true ∧
    ∀ (j : Nat) (f' : FV), (mkFs P ts l fs)[j]? = some f' → ∃ t b f, fs[j]? = some f ∧ f' = mkF P t b f ∧ okF P t b f = true
  | [], [], [], _ => ⟨rfl, rfl, fun j f' hj => by simp [mkFs] at hj⟩
  | [], [], _ :: _, h => by simp [okFs] at h
  | [], _ :: _, _, h => by simp [okFs] at h
  | _ :: _, [], _, h => by simp [okFs] at h
  | _ :: _, _ :: _, [], h => by simp [okFs] at h
  | t :: ts, b :: bs, f :: fs, h => by
    simp only [okFs, Bool.and_eq_true] at h
    obtain ⟨h1, h2, h3⟩ := mkFs_spec ts bs fs h.2
    refine ⟨by simp [mkFs, h1], by simp [mkFs, typedFs, mkF_typed h.1, h2], fun j f' hj => ?_⟩
    cases j with
    | zero => simp [mkFs] at hj; exact ⟨t, b, f, rfl, hj.symm, h.1⟩
    | succ j => exact h3 j f' (by simpa [mkFs] using hj)
/-- A result that has its form is what it is told to be. -/
theorem mkO_rep {t : TypeId} {k : RK} {o : OV} {u : Value} {m : Option Nat} {β : Nat → Option Nat} (ho : okO P t k o = true) (h : ORep w O o u m β) : ORep w O (mkO P t k o) u m β := by
  unfold okO at ho
  split at ho
  · cases h with | flat f u b h => exact .flat _ _ _ (mkF_rep ho h)
  · cases h with | flat f u b h => exact .flat _ _ _ (mkF_rep ho h)
  · rename_i sh xs sp
    simp only [Bool.and_eq_true] at ho
    cases h with
    | flat f u b h =>
      simp only [mkO, OV.fv, FV.xs, FV.sp, shEq_eq ho.1]
      exact .flat _ _ _ h
  · exact h
  · rename_i l cs
    obtain ⟨h1, h2, h3⟩ := mkFs_spec _ _ _ ho
    refine ORep.recell h h1 (fun j f' hj hok hk => ?_) (fun j f f' z hj hj' hz => ?_) (fun e => by cases e) h.none_
    · obtain ⟨t', b, f, hf, rfl, hok'⟩ := h3 j f' hj
      exact (mkF_ok hok').1 (hok f hf hk)
    · obtain ⟨t', b, f2, hf, rfl, hok'⟩ := h3 j f' hj'
      rw [hj] at hf
      cases hf
      exact mkF_rep hok' hz
  · rename_i l cs
    obtain ⟨h1, h2, h3⟩ := mkFs_spec _ _ _ ho
    refine ORep.recell h h1 (fun j f' hj hok hk => ?_) (fun j f f' z hj hj' hz => ?_) (fun e => by cases e) h.none_
    · obtain ⟨t', b, f, hf, rfl, hok'⟩ := h3 j f' hj
      exact (mkF_ok hok').1 (hok f hf hk)
    · obtain ⟨t', b, f2, hf, rfl, hok'⟩ := h3 j f' hj'
      rw [hj] at hf
      cases hf
      exact mkF_rep hok' hz
  · cases ho
theorem mkO_typed {t : TypeId} {k : RK} {o : OV} (ho : okO P t k o = true) : (mkO P t k o).typed P t = true := by
  unfold okO at ho
  split at ho
  · exact mkF_typed ho
  · exact mkF_typed ho
  · rename_i sh xs sp
    simp only [Bool.and_eq_true] at ho
    exact ho.2
  · exact ho
  · exact (mkFs_spec _ _ _ ho).2.1
  · rfl
  · cases ho
theorem mkO_whole {t : TypeId} {k : RK} {o : OV} (ho : okO P t k o = true) : ∀ f, mkO P t k o = .flat f → f.whole = true := by
  intro f hf
  unfold okO at ho
  split at ho
  · simp only [mkO, OV.fv] at hf; cases hf; exact (mkF_ok ho).2
  · simp only [mkO, OV.fv] at hf; cases hf; exact (mkF_ok ho).2
  · simp only [mkO] at hf; cases hf; rfl
  · simp [mkO] at hf
  · simp [mkO] at hf
  · simp [mkO] at hf
  · cases ho
end
end Go.Ev

namespace Go.Ev

section
variable {P : Program} {w : World} {Oc : Nat → Prop} {st : Slots} {tm : Nat → Value} {blk : Blk}

def modeAt (ms : List Md) (i : Nat) : Md := (ms[i]?).getD .ro
theorem modeAt_zero (ms : List Md) : modeAt ms 0 = ms.headD .ro := by cases ms <;> rfl
theorem modeAt_succ (ms : List Md) (i : Nat) : modeAt ms (i + 1) = modeAt ms.tail i := by cases ms <;> rfl

def prep (plain : Bool) (m : Md) (a : Arg) : Option (List Edit) := match m with
  | .ro => match plain with
    | true => some []
    | false => a.freeze
  | _ => a.take
def preps (plain : Bool) : List Md → List Arg → Option (List Edit)
  | _, [] => some []
  | ms, a :: r => match prep plain (ms.headD .ro) a, preps plain ms.tail r with
    | some e, some es => some (e ++ es)
    | _, _ => none

theorem preps_get {plain : Bool} : ∀ {as : List Arg} {ms : List Md} {es : List Edit}, preps plain ms as = some es → ∀ (i : Nat) (b : Arg), as[i]? = some b → ∃ ei, prep plain (modeAt ms i) b = some ei ∧ ∀ e ∈ ei, e ∈ es
  | [], _, _, _, i, b, hb => by simp at hb
  | a :: as, ms, es, h, i, b, hb => by
    simp only [preps] at h
    split at h
    · rename_i e1 e2 h1 h2
      cases h
      cases i with
      | zero => simp at hb; subst hb; exact ⟨e1, by rw [modeAt_zero]; exact h1, fun e he => by simp [he]⟩
      | succ i =>
        obtain ⟨ei, g1, g2⟩ := preps_get h2 i b (by simpa using hb)
        exact ⟨ei, by rw [modeAt_succ]; exact g1, fun e he => by simp [g2 e he]⟩
    · cases h
theorem take_on {a : Arg} {o : OV} {es : List Edit} (ho : a.ov = some o) (ht : a.take = some es) {s : Nat} (hs : a.sv.root = some s) : ∃ e, es = [e] ∧ e.s = s := by
  obtain ⟨sv, rt⟩ := a
  cases sv with
  | home o => simp [SV.root] at hs
  | ref s' c =>
    have hss : s' = s := Option.some.inj hs
    subst hss
    exact take_one rfl ht
  | _ => simp [Arg.ov] at ho
theorem argOV_spec {m : Md} {a : Arg} {o : OV} (h : argOV m a = some o) : (m = .ro ∧ ∃ v, a.pv = some v ∧ o = .val v) ∨ (m ≠ .ro ∧ a.ov = some o) := by
  unfold argOV at h
  split at h
  · left
    split at h
    · rename_i v hv; cases h; exact ⟨rfl, v, hv, rfl⟩
    · cases h
  · rename_i hne
    right
    refine ⟨fun e => hne e, ?_⟩
    split at h
    · rename_i ho; cases h; exact ho
    · rename_i ho; cases h; exact ho
    · cases h
theorem apart_spec {m : Md} {s : Option Nat} : ∀ {ms : List Md} {as : List Arg}, apartFrom m s ms as = true → ∀ (i : Nat) (b : Arg), as[i]? = some b → ∀ x y, s = some x → b.rootSlot = some y → x ≠ y ∨ (m.isRo = true ∧ (modeAt ms i).isRo = true)
  | _, [], _, i, b, hb, _, _, _, _ => by simp at hb
  | ms, a :: r, h, i, b, hb, x, y, hx, hy => by
    simp only [apartFrom, Bool.and_eq_true] at h
    cases i with
    | zero =>
      simp at hb
      subst hb
      rw [hx, hy] at h
      dsimp only at h
      by_cases he : x = y
      · right
        subst he
        have := h.1
        simp only [Nat.beq_refl, Bool.not_true, Bool.false_or, Bool.and_eq_true] at this
        rw [modeAt_zero]
        exact this
      · exact .inl he
    | succ i =>
      rw [modeAt_succ]
      exact apart_spec h.2 i b (by simpa using hb) x y hx hy
theorem ArgRep.rootSlot {O : Nat → Prop} {a : Arg} {u : Value} (ha : ArgRep w O st tm a u) : a.rootSlot = a.sv.root := by
  unfold Arg.rootSlot
  cases hr : a.rt with
  | none =>
    cases hs : a.sv.root with
    | none => rfl
    | some s => obtain ⟨o, ho⟩ := ha.some_ s hs; rw [hr] at ho; cases ho
  | some p =>
    obtain ⟨s, o⟩ := p
    exact (ha.root s o hr).2.symm
theorem isRo_ro {m : Md} (h : m.isRo = true) : m = .ro := by cases m <;> simp [Md.isRo] at h; rfl

theorem owns_root {a : Arg} {k : Nat} (h : a.owns blk k) : ∃ s c, a.sv.root = some s ∧ blk s c = some k := by
  unfold Arg.owns at h
  split at h
  · rename_i s c hsv
    cases c with
    | none => obtain ⟨c, hc⟩ := h; exact ⟨s, c, by rw [hsv]; rfl, hc⟩
    | some j => exact ⟨s, some j, by rw [hsv]; rfl, h⟩
  · rename_i s c _ _ hsv
    cases c with
    | none => obtain ⟨c, hc⟩ := h; exact ⟨s, c, by rw [hsv]; rfl, hc⟩
    | some j => exact ⟨s, some j, by rw [hsv]; rfl, h⟩
  · rename_i s j n hsv
    obtain ⟨q, _, _, hq⟩ := h
    exact ⟨s, some q, by rw [hsv]; rfl, hq⟩
  · exact h.elim

def consBlk (pb : Option Nat → Option Nat) (ab : Blk) : Blk := fun i => match i with
  | 0 => pb
  | i + 1 => ab i
def consO (o : Nat → Prop) (Oi : Nat → Nat → Prop) : Nat → Nat → Prop := fun i => match i with
  | 0 => o
  | i + 1 => Oi i
theorem consBlk_has {pb : Option Nat → Option Nat} {ab : Blk} (k : Nat) : (consBlk pb ab).has k ↔ (∃ c, pb c = some k) ∨ ab.has k := by
  constructor
  · rintro ⟨i, c, h⟩
    cases i with
    | zero => exact .inl ⟨c, h⟩
    | succ i => exact .inr ⟨i, c, h⟩
  · rintro (⟨c, h⟩ | ⟨i, c, h⟩)
    · exact ⟨0, c, h⟩
    · exact ⟨i + 1, c, h⟩

/-- What a call finds: the caller's frame without what was handed over, and the arguments. -/
structure Prepared (w : World) (Oc : Nat → Prop) (st' : Slots) (tm : Nat → Value) (blk blk1 ab : Blk) (Oi : Nat → Nat → Prop) (plain : Bool) (ms : List Md) (as : List Arg) (os : List OV) (us : List Value) : Prop where
  frame : SRel w (fun k => Oc k ∨ ab.has k) st' tm blk1
  sub : ∀ t c k, blk1 t c = some k → blk t c = some k
  from_ : ∀ i c k, ab i c = some k → (modeAt ms i).isRo = false ∧ ∃ a s c', as[i]? = some a ∧ a.sv.root = some s ∧ blk s c' = some k
  inj : ∀ i c i' c' k, ab i c = some k → ab i' c' = some k → i = i' ∧ c = c'
  rep : ∀ (i : Nat) (o : OV) (u : Value), os[i]? = some o → us[i]? = some u → ORep w (Oi i) o u (ab i none) (fun j => ab i (some j))
  has : ∀ i k, ab.has k → Oi i k
  oc : ∀ i k, Oc k → Oi i k
  loud : plain = false → ∀ i k, blk1.off Oc k → Oi i k
  end_ : ∀ i, as.length ≤ i → ∀ c, ab i c = none

theorem preps_rep (plain : Bool) : ∀ (as : List Arg) (us : List Value) (os : List OV) (ms : List Md) (st : Slots) (blk : Blk) (Oc : Nat → Prop) (pes : List Edit), SRel w Oc st tm blk → ArgsRep w (blk.off Oc) st tm as us →
    argOVs ms as = some os → preps plain ms as = some pes → onceEach pes = true → argsApart ms as = true → ∃ blk1 ab Oi, Prepared w Oc (edits pes st) tm blk blk1 ab Oi plain ms as os us
  | [], us, os, ms, st, blk, Oc, pes, h, ha, ho, hp, _, _ => by
    cases ha
    simp only [argOVs, Option.some.injEq] at ho
    simp only [preps, Option.some.injEq] at hp
    subst ho; subst hp
    refine ⟨blk, fun _ _ => none, fun _ _ => True, ⟨h.world (Nat.le_refl _) (fun _ _ _ => rfl) (fun k _ q => ?_), fun _ _ _ q => q, fun i c k q => (by cases q), fun i c i' c' k q => (by cases q), fun i o u q => (by simp at q), fun _ _ _ => trivial, fun _ _ _ => trivial, fun _ _ _ _ => trivial, fun _ _ _ => rfl⟩⟩
    rcases q with q | ⟨_, _, q⟩
    · exact q
    · cases q
  | a :: as, us, os, ms, st, blk, Oc, pes, h, ha, ho, hp, hon, hap => by
    cases ha with
    | cons _ u _ us ha har =>
    simp only [argOVs] at ho
    split at ho
    case h_2 => cases ho
    rename_i o os' ho1 ho2
    cases ho
    simp only [preps] at hp
    split at hp
    case h_2 => cases hp
    rename_i e1 e2 he1 he2
    cases hp
    obtain ⟨on1, on2, on3⟩ := onceEach_append hon
    simp only [argsApart, Bool.and_eq_true] at hap
    obtain ⟨hap1, hap2⟩ := hap
    rw [ha.rootSlot] at hap2
    -- arguments further on
    have tailRep : ∀ (i : Nat) (b : Arg), as[i]? = some b → ∃ v, us[i]? = some v ∧ ArgRep w (blk.off Oc) st tm b v := fun i b hb => har.get.2 i b hb
    have rest : ∀ {O' : Nat → Prop} {es : List Edit}, (∀ k, O' k → blk.off Oc k) → (∀ (i : Nat) (b : Arg), as[i]? = some b → ∀ s, b.sv.root = some s → notOn s es = true) → ∀ {as' : List Arg} {us' : List Value}, ArgsRep w (blk.off Oc) st tm as' us' → (∀ b ∈ as', ∃ i : Nat, as[i]? = some b) → ArgsRep w O' (edits es st) tm as' us' := by
      intro O' es hO hn as' us' hr
      induction hr with
      | nil => exact fun _ => .nil
      | cons b v bs vs hb hr ih =>
        intro hmem
        obtain ⟨i, hi⟩ := hmem b (by simp)
        exact .cons _ _ _ _ (hb.edits hO fun s hs => hn i b hi s hs) (ih fun c hc => hmem c (by simp [hc]))
    have hmem : ∀ b ∈ as, ∃ i : Nat, as[i]? = some b := fun b hb => by
      obtain ⟨i, hi, rfl⟩ := List.mem_iff_getElem.1 hb
      exact ⟨i, List.getElem?_eq_getElem hi⟩
    rcases argOV_spec ho1 with ⟨hro, v, hv, rfl⟩ | ⟨hnro, hov⟩
    · rw [hro] at he1 hap2
      cases plain with
      | true =>
        simp only [prep, Option.some.injEq] at he1
        subst he1
        obtain ⟨blk1, ab, Oi, H⟩ := preps_rep true as us os' ms.tail st blk Oc e2 h har ho2 he2 on2 hap1
        have hlent : ∀ k, Oc k → lent (blk.off Oc) blk a k := fun k hk => ⟨.inr hk, fun ow => by
          obtain ⟨s, c, _, q⟩ := owns_root ow
          exact (h.out _ _ _ q).1 hk⟩
        refine ⟨blk1, consBlk (fun _ => none) ab, consO (lent (blk.off Oc) blk a) Oi, ⟨H.frame.world (Nat.le_refl _) (fun _ _ _ => rfl) (fun k _ q => ?_), H.sub, fun i c k q => ?_, fun i c i' c' k q q' => ?_, fun i o u q q' => ?_, fun i k q => ?_, fun i k q => ?_, (fun q => by cases q), fun i hi c => ?_⟩⟩
        · rcases q with q | q
          · exact .inl q
          · rcases (consBlk_has k).1 q with ⟨_, q⟩ | q
            · cases q
            · exact .inr q
        · cases i with
          | zero => cases q
          | succ i =>
            obtain ⟨g1, b, s, c', g2, g3, g4⟩ := H.from_ i c k q
            exact ⟨by rw [modeAt_succ]; exact g1, b, s, c', g2, g3, g4⟩
        · cases i with
          | zero => cases q
          | succ i =>
            cases i' with
            | zero => cases q'
            | succ i' =>
              obtain ⟨g1, g2⟩ := H.inj _ _ _ _ _ q q'
              exact ⟨by rw [g1], g2⟩
        · cases i with
          | zero =>
            simp at q q'
            subst q; subst q'
            exact .flat _ _ _ (.val _ _ (arg_pv h ha hv))
          | succ i => exact H.rep i o u (by simpa using q) (by simpa using q')
        · rcases (consBlk_has k).1 q with ⟨_, q⟩ | q
          · cases q
          · cases i with
            | succ i => exact H.has i k q
            | zero =>
              obtain ⟨i, c, q⟩ := q
              obtain ⟨g1, b, s, c', g2, g3, g4⟩ := H.from_ i c k q
              refine ⟨.inl ⟨s, c', g4⟩, fun ow => ?_⟩
              obtain ⟨s2, c2, r1, r2⟩ := owns_root ow
              obtain ⟨bv, _, hb⟩ := tailRep i b g2
              have hss : s2 = s := (h.inj _ _ _ _ _ r2 g4).1
              rcases apart_spec hap2 i b g2 s2 s r1 (by rw [hb.rootSlot]; exact g3) with x | ⟨_, x⟩
              · exact x hss
              · rw [g1] at x; cases x
        · cases i with
          | zero => exact hlent k q
          | succ i => exact H.oc i k q
        · cases i with
          | zero => rfl
          | succ i => exact H.end_ i (by simpa using hi) c
      | false =>
        simp only [prep] at he1
        obtain ⟨blk', a1, a2, a3, a4, a5⟩ := freeze_arg h (fun s o hrt => ha.root s o hrt) hv he1
        have hn : ∀ (i : Nat) (b : Arg), as[i]? = some b → ∀ s, b.sv.root = some s → notOn s e1 = true := by
          intro i b hb s hs
          rw [notOn_iff]
          intro hm
          obtain ⟨e, he, rfl⟩ := List.mem_map.1 hm
          have har : a.sv.root = some e.s := a5 e he
          obtain ⟨bv, _, hbr⟩ := tailRep i b hb
          rcases apart_spec hap2 i b hb e.s e.s har (by rw [hbr.rootSlot]; exact hs) with x | ⟨_, x⟩
          · exact x rfl
          · -- both are only read: both are frozen
            have : ∃ f ∈ e2, f.s = e.s := by
              obtain ⟨ei, g1, g2⟩ := preps_get he2 i b hb
              rw [isRo_ro x] at g1
              obtain ⟨f, hf, hfs⟩ := freeze_on g1 hs
              exact ⟨f, g2 f hf, hfs⟩
            obtain ⟨f, hf, hfs⟩ := this
            exact on3 f hf (List.mem_map.2 ⟨e, he, hfs.symm⟩)
        have hsubO : ∀ k, blk'.off Oc k → blk.off Oc k := by
          rintro k (⟨t, c, q⟩ | q)
          · exact .inl ⟨t, c, a2 _ _ _ q⟩
          · exact .inr q
        obtain ⟨blk1, ab, Oi, H⟩ := preps_rep false as us os' ms.tail (edits e1 st) blk' Oc e2 a1 (rest hsubO hn har hmem) ho2 he2 on2 hap1
        have hOc : ∀ k, Oc k → lent (blk.off Oc) blk a k := fun k hk => ⟨.inr hk, fun ow => by
          obtain ⟨s, c, _, q⟩ := owns_root ow
          exact (h.out _ _ _ q).1 hk⟩
        have hbl : ∀ t c k, blk' t c = some k → lent (blk.off Oc) blk a k := fun t c k q => ⟨.inl ⟨t, c, a2 _ _ _ q⟩, a3 t c k q⟩
        refine ⟨blk1, consBlk (fun _ => none) ab, consO (lent (blk.off Oc) blk a) Oi, ⟨?_, fun t c k q => a2 _ _ _ (H.sub _ _ _ q), fun i c k q => ?_, fun i c i' c' k q q' => ?_, fun i o u q q' => ?_, fun i k q => ?_, fun i k q => ?_, fun hp i k q => ?_, fun i hi c => ?_⟩⟩
        · rw [edits_append]
          refine H.frame.world (Nat.le_refl _) (fun _ _ _ => rfl) (fun k _ q => ?_)
          rcases q with q | q
          · exact .inl q
          · rcases (consBlk_has k).1 q with ⟨_, q⟩ | q
            · cases q
            · exact .inr q
        · cases i with
          | zero => cases q
          | succ i =>
            obtain ⟨g1, b, s, c', g2, g3, g4⟩ := H.from_ i c k q
            exact ⟨by rw [modeAt_succ]; exact g1, b, s, c', g2, g3, a2 _ _ _ g4⟩
        · cases i with
          | zero => cases q
          | succ i =>
            cases i' with
            | zero => cases q'
            | succ i' =>
              obtain ⟨g1, g2⟩ := H.inj _ _ _ _ _ q q'
              exact ⟨by rw [g1], g2⟩
        · cases i with
          | zero =>
            simp at q q'
            subst q; subst q'
            exact .flat _ _ _ (.val _ _ (arg_pv h ha hv))
          | succ i => exact H.rep i o u (by simpa using q) (by simpa using q')
        · rcases (consBlk_has k).1 q with ⟨_, q⟩ | q
          · cases q
          · cases i with
            | succ i => exact H.has i k q
            | zero =>
              obtain ⟨i, c, q⟩ := q
              obtain ⟨g1, b, s, c', g2, g3, g4⟩ := H.from_ i c k q
              exact hbl _ _ _ g4
        · cases i with
          | zero => exact hOc k q
          | succ i => exact H.oc i k q
        · cases i with
          | succ i => exact H.loud hp i k q
          | zero =>
            rcases q with ⟨t, c, q⟩ | q
            · exact hbl _ _ _ (H.sub _ _ _ q)
            · exact hOc k q
        · cases i with
          | zero => rfl
          | succ i => exact H.end_ i (by simpa using hi) c
    · have he1' : a.take = some e1 := by
        unfold prep at he1
        split at he1
        · rename_i hm; exact absurd hm hnro
        · exact he1
      obtain ⟨blk', pb, hpd, hsub, hfrom⟩ := take_rep' h ha hov he1'
      have hmr : (ms.headD .ro).isRo = false := by
        cases hm : ms.headD .ro with
        | ro => exact absurd hm hnro
        | io k => rfl
        | tk => rfl
      have hn : ∀ (i : Nat) (b : Arg), as[i]? = some b → ∀ s, b.sv.root = some s → notOn s e1 = true := by
        intro i b hb s hs
        rw [notOn_iff]
        intro hm
        obtain ⟨e, he, rfl⟩ := List.mem_map.1 hm
        have har : a.sv.root = some e.s := by
          cases e1 with
          | nil => cases he
          | cons f fs =>
            have hr := take_root he1'
            obtain ⟨e', h1, h2⟩ := take_on hov he1' hr
            rw [h1] at he
            simp at he
            subst he
            rw [hr, h2]
        obtain ⟨bv, _, hbr⟩ := tailRep i b hb
        rcases apart_spec hap2 i b hb e.s e.s har (by rw [hbr.rootSlot]; exact hs) with x | ⟨x, _⟩
        · exact x rfl
        · rw [hmr] at x; cases x
      have hsubO : ∀ k, (blk'.off fun k => Oc k ∨ ∃ c, pb c = some k) k → blk.off Oc k := by
        rintro k (⟨t, c, q⟩ | q | ⟨c, q⟩)
        · exact .inl ⟨t, c, hsub _ _ _ q⟩
        · exact .inr q
        · obtain ⟨s, c', _, q⟩ := hfrom c k q
          exact .inl ⟨s, c', q⟩
      obtain ⟨blk1, ab, Oi, H⟩ := preps_rep plain as us os' ms.tail (edits e1 st) blk' (fun k => Oc k ∨ ∃ c, pb c = some k) e2 hpd.base (rest hsubO hn har hmem) ho2 he2 on2 hap1
      refine ⟨blk1, consBlk pb ab, consO (blk'.off fun k => Oc k ∨ ∃ c, pb c = some k) Oi, ⟨?_, fun t c k q => hsub _ _ _ (H.sub _ _ _ q), fun i c k q => ?_, fun i c i' c' k q q' => ?_, fun i o u q q' => ?_, fun i k q => ?_, fun i k q => ?_, fun hp i k q => ?_, fun i hi c => ?_⟩⟩
      · rw [edits_append]
        refine H.frame.world (Nat.le_refl _) (fun _ _ _ => rfl) (fun k _ q => ?_)
        rcases q with q | q
        · exact .inl (.inl q)
        · rcases (consBlk_has k).1 q with q | q
          · exact .inl (.inr q)
          · exact .inr q
      · cases i with
        | zero =>
          obtain ⟨s, c', g3, g4⟩ := hfrom c k q
          exact ⟨by rw [modeAt_zero]; exact hmr, a, s, c', rfl, g3, g4⟩
        | succ i =>
          obtain ⟨g1, b, s, c', g2, g3, g4⟩ := H.from_ i c k q
          exact ⟨by rw [modeAt_succ]; exact g1, b, s, c', g2, g3, hsub _ _ _ g4⟩
      · have hno : ∀ c i c' k, pb c = some k → ab i c' = some k → False := by
          intro c i c' k h1 h2
          obtain ⟨_, b, s, c2, _, _, g4⟩ := H.from_ i c' k h2
          exact (hpd.base.out _ _ _ g4).1 (.inr ⟨c, h1⟩)
        cases i with
        | zero =>
          cases i' with
          | zero => exact ⟨rfl, hpd.inj _ _ _ q q'⟩
          | succ i' => exact (hno _ _ _ _ q q').elim
        | succ i =>
          cases i' with
          | zero => exact (hno _ _ _ _ q' q).elim
          | succ i' =>
            obtain ⟨g1, g2⟩ := H.inj _ _ _ _ _ q q'
            exact ⟨by rw [g1], g2⟩
      · cases i with
        | zero =>
          simp at q q'
          subst q; subst q'
          exact hpd.rep
        | succ i => exact H.rep i o u (by simpa using q) (by simpa using q')
      · cases i with
        | zero =>
          rcases (consBlk_has k).1 q with q | ⟨i, c, q⟩
          · exact .inr (.inr q)
          · obtain ⟨g1, b, s, c', g2, g3, g4⟩ := H.from_ i c k q
            exact .inl ⟨s, c', g4⟩
        | succ i =>
          rcases (consBlk_has k).1 q with q | q
          · exact H.oc i k (.inr q)
          · exact H.has i k q
      · cases i with
        | zero => exact .inr (.inl q)
        | succ i => exact H.oc i k (.inl q)
      · cases i with
        | zero =>
          rcases q with ⟨t, c, q⟩ | q
          · exact .inl ⟨t, c, H.sub _ _ _ q⟩
          · exact .inr (.inl q)
        | succ i =>
          refine H.loud hp i k ?_
          rcases q with q | q
          · exact .inl q
          · exact .inr (.inl q)
      · cases i with
        | zero => simp at hi
        | succ i => exact H.end_ i (by simpa using hi) c
end
end Go.Ev

namespace Go.Ev

section
variable {P : Program} {w : World} {Oc : Nat → Prop} {st : Slots} {tm : Nat → Value} {blk : Blk}

/-- A cell of a home says something else of the value that it has, and owns what lay beside the frame. -/
theorem SRel.fill {Oc' : Nat → Prop} (h : SRel w Oc st tm blk) {s j : Nat} {k : CK} {cs : List FV} {g : FV} {z : Value} {m : Option Nat} (hg : st.get s = .home (.cont k cs)) (hj : j < cs.length) (hz : PathV w (tm s) (.cont k cs) (some j) z)
    (hf : FRep w (Blk.off (updN blk s fun c => if c = some j then m else blk s c) Oc') g z m) (hok : g.cellOk) (hwh : g.whole = true) (hO : ∀ x, Oc' x → Oc x) (hm : ∀ x, m = some x → Oc x ∧ ¬ Oc' x ∧ x < w.heap.size) :
    SRel w Oc' ((Edit.mk s (.home (.cont k (cs.set j g))) (.cells j 1)).on st) tm (updN blk s fun c => if c = some j then m else blk s c) := by
  have hrep := h.rep s
  rw [hg] at hrep
  let b' : Option Nat → Option Nat := fun c => if c = some j then m else blk s c
  have hb : ∀ c x, b' c = some x → (c = some j ∧ m = some x) ∨ (c ≠ some j ∧ blk s c = some x) := by
    intro c x hx
    simp only [b'] at hx
    split at hx
    · rename_i hc; exact .inl ⟨hc, hx⟩
    · rename_i hc; exact .inr ⟨hc, hx⟩
  have hmo : ∀ x, m = some x → ∀ t c, blk t c ≠ some x := fun x hx t c hh => (h.out _ _ _ hh).1 (hm x hx).1
  have hoff : ∀ x, x < w.heap.size → ¬ blk.off Oc x → w.heap[x]? = w.heap[x]? ∧ ¬ Blk.off (updN blk s b') Oc' x := by
    intro x hx hno
    refine ⟨rfl, ?_⟩
    rintro (⟨t, c, hh⟩ | hh)
    · by_cases ht : t = s
      · subst ht
        rw [updN_same] at hh
        rcases hb c x hh with ⟨_, q⟩ | ⟨_, q⟩
        · exact hno (.inr (hm x q).1)
        · exact hno (.inl ⟨t, c, q⟩)
      · rw [updN_ne _ _ ht] at hh; exact hno (.inl ⟨t, c, hh⟩)
    · exact hno (.inr (hO x hh))
  have key := SRel.edit (w' := w) (Oc' := Oc') h ⟨s, .home (.cont k (cs.set j g)), .cells j 1⟩ (tm s) b' (Nat.le_refl _) (fun _ _ _ _ => rfl) (fun x _ hh => .inl (hO x hh))
    (fun c x hx => by
      rcases hb c x hx with ⟨_, q⟩ | ⟨_, q⟩
      · exact ⟨.inr (.inl (hm x q).1), (hm x q).2⟩
      · exact ⟨.inl ⟨c, q⟩, fun hh => (h.out _ _ _ q).1 (hO x hh), (h.out _ _ _ q).2⟩)
    (fun c c' x h1 h2 => by
      rcases hb c x h1 with ⟨e1, q1⟩ | ⟨e1, q1⟩ <;> rcases hb c' x h2 with ⟨e2, q2⟩ | ⟨e2, q2⟩
      · rw [e1, e2]
      · exact absurd q2 (hmo x q1 _ _)
      · exact absurd q1 (hmo x q2 _ _)
      · exact (h.inj _ _ _ _ _ q1 q2).2)
    (by
      have hnone : b' none = blk s none := rfl
      have hbj : b' (some j) = m := by simp [b']
      have hbne : ∀ q, q ≠ j → b' (some q) = blk s (some q) := fun q hq => by simp [b', hq]
      show ORep _ _ _ _ _ _
      rw [hnone]
      have cells : ∀ (get : Nat → Option Value), (∀ q, get q = some z → True) → Cells w (blk.off Oc) cs get (fun j => blk s (some j)) → (∀ u, get j = some u → u = z) → Cells w (Blk.off (updN blk s b') Oc') (cs.set j g) get (fun j => b' (some j)) := by
        intro get _ H hget
        refine ⟨fun q f hq => ?_, fun q hq => ?_⟩
        · by_cases hqj : q = j
          · subst hqj
            rw [List.getElem?_set_self hj] at hq
            cases hq
            obtain ⟨u, h1, _⟩ := H.rep q cs[q] (by simp [hj])
            rw [hget u h1] at h1
            exact ⟨z, h1, by rw [hbj]; exact hf⟩
          · rw [List.getElem?_set_ne (by omega)] at hq
            obtain ⟨u, h1, h2⟩ := H.rep q f hq
            rw [hbne q hqj]
            exact ⟨u, h1, h2.move ⟨hoff, fun _ _ => rfl⟩⟩
        · rw [List.length_set] at hq
          rw [hbne q (by omega)]
          exact H.none_ q hq
      have ok : (∀ (q : Nat) (f : FV), cs[q]? = some f → f.cellOk) → ∀ (q : Nat) (f : FV), (cs.set j g)[q]? = some f → f.cellOk := by
        intro H q f hq
        by_cases hqj : q = j
        · subst hqj; rw [List.getElem?_set_self hj] at hq; cases hq; exact hok
        · rw [List.getElem?_set_ne (by omega)] at hq; exact H q f hq
      have wh : (∀ (q : Nat) (f : FV), cs[q]? = some f → f.whole = true) → ∀ (q : Nat) (f : FV), (cs.set j g)[q]? = some f → f.whole = true := by
        intro H q f hq
        by_cases hqj : q = j
        · subst hqj; rw [List.getElem?_set_self hj] at hq; cases hq; exact hwh
        · rw [List.getElem?_set_ne (by omega)] at hq; exact H q f hq
      have hrep : ORep w (blk.off Oc) (.cont k cs) (tm s) (blk s none) (fun j => blk s (some j)) := hrep
      have hβ : ∃ β, β = fun j => blk s (some j) := ⟨_, rfl⟩
      obtain ⟨β, hβ⟩ := hβ
      rw [← hβ] at hrep cells
      generalize hv : tm s = v at hrep hz ⊢
      generalize hmm : blk s none = mm at hrep ⊢
      cases hrep with
      | agg _ us _ hl hk H =>
        refine .agg _ us _ (by simpa using hl) (ok hk) (cells _ (fun _ _ => trivial) H fun u hu => ?_)
        cases hz with | agg _ _ _ _ hz => rw [hu] at hz; exact Option.some.inj hz
      | tup _ us _ hl H =>
        refine .tup _ us _ (by simpa using hl) (cells _ (fun _ _ => trivial) H fun u hu => ?_)
        cases hz with | tup _ _ _ _ hz => rw [hu] at hz; exact Option.some.inj hz
      | box _ b cur e fr _ hb1 ht hl hk H =>
        refine .box _ b cur e fr _ hb1 ht (by simpa using hl) (ok hk) (cells _ (fun _ _ => trivial) H fun u hu => ?_)
        cases hz with | box _ _ _ _ hz => rw [cell_at hb1, hu] at hz; exact Option.some.inj hz
      | nestE A => simp at hj
      | nest _ b c cur e fr _ hb1 ht hl hc hk hw H =>
        have := ORep.nest (w := w) (O := Blk.off (updN blk s b') Oc') (cs.set j g) b c cur e fr (fun j => b' (some j)) hb1 ht hl (by simpa using hc) (ok hk) (wh hw) (cells _ (fun _ _ => trivial) H fun u hu => by
          cases hz with | nest _ _ _ _ _ _ hz => rw [cell_at hb1, hu] at hz; exact Option.some.inj hz)
        rw [List.length_set] at this
        exact this)
    (fun t ht hroot hv => by
      rw [get_on] at hroot ⊢
      dsimp only at hroot ⊢
      obtain ⟨e1, e2, e3⟩ := cutCells_keeps hroot
      rw [e1]
      refine alias_home (cs' := cs.set j g) hv e2 hg (by rw [get_edit]; simp) (updN_same _ _ _) (by simp) (fun c n hc q h1 h2 => ⟨?_, fun _ _ => rfl⟩)
      rw [List.getElem?_set_ne]
      rintro rfl
      exact e3 c n hc ⟨by omega, by omega⟩)
  rwa [updN_self] at key

/-- A slot whose home was taken away has one again, of the value that it has. -/
theorem SRel.fillAll {Oc' : Nat → Prop} {s : Nat} {o : OV} {b : Option Nat → Option Nat} (h : SRel w Oc st tm blk) (hO : ∀ x, Oc' x → Oc x) (hrep : ORep w (Blk.off (updN blk s b) Oc') o (tm s) (b none) (fun j => b (some j)))
    (hinj : ∀ c c' x, b c = some x → b c' = some x → c = c') (hb : ∀ c x, b c = some x → Oc x ∧ ¬ Oc' x ∧ x < w.heap.size) :
    SRel w Oc' ((Edit.mk s (.home o) .all).on st) tm (updN blk s b) := by
  have key := SRel.edit (w' := w) (Oc' := Oc') h ⟨s, .home o, .all⟩ (tm s) b (Nat.le_refl _) (fun _ _ _ _ => rfl) (fun x _ hh => .inl (hO x hh))
    (fun c x hx => ⟨.inr (.inl (hb c x hx).1), (hb c x hx).2⟩) hinj hrep (fun t ht hroot _ => by rw [get_on] at hroot; exact absurd hroot (cutAll_root _ _))
  rwa [updN_self] at key

theorem setAt_spec {s : Nat} {o : OV} {c : Option Nat} {f : OV} {e : Edit} (h : setAt s o c f = some e) :
    (c = none ∧ e = ⟨s, .home f, .all⟩) ∨ ∃ j k cs g, c = some j ∧ o = .cont k cs ∧ f = .flat g ∧ e = ⟨s, .home (.cont k (cs.set j g)), .cells j 1⟩ := by
  unfold setAt at h
  split at h
  · cases h; exact .inl ⟨rfl, rfl⟩
  · rename_i j
    split at h
    · cases h
    · rename_i k cs g _
      cases h; exact .inr ⟨j, _, _, _, rfl, rfl, rfl, rfl⟩
    · cases h

/-- An argument that a call may change: where it is put back. -/
structure Back (ms : List Md) (as : List Arg) (outs : List OV) (i : Nat) (p e : Edit) : Prop where
  ex : ∃ a s c o kd s', as[i]? = some a ∧ a.sv = .ref s c ∧ a.rt = some (s', o) ∧ modeAt ms i = .io kd ∧ (setAt s o c ((outs[i]?).getD (.flat .gone)) = some e ∧ putOk c ((outs[i]?).getD (.flat .gone)) = true) ∧ a.take = some [p] ∧ p.s = e.s ∧ p.cut = e.cut

theorem rootless_take {a : Arg} {o : OV} {es : List Edit} (ho : a.ov = some o) (h : a.take = some es) : Rootless es := by
  obtain ⟨sv, rt⟩ := a
  cases sv with
  | home o => simp only [Arg.take, Option.some.injEq] at h; subst h; intro e he; cases he
  | ref s c =>
    cases rt with
    | none => cases c <;> simp [Arg.take] at h
    | some p =>
      cases c with
      | none => simp only [Arg.take, Option.some.injEq] at h; subst h; intro e he; simp at he; subst he; rfl
      | some j =>
        simp only [Arg.take] at h
        cases hs : setAt s p.2 (some j) (.flat .gone) with
        | none => rw [hs] at h; cases h
        | some e =>
          rw [hs] at h
          simp only [one, Option.some.injEq] at h
          subst h
          intro e' he'
          simp at he'
          subst he'
          rcases setAt_spec hs with ⟨_, rfl⟩ | ⟨_, _, _, _, _, _, _, rfl⟩ <;> rfl
  | _ => simp [Arg.ov] at ho
theorem rootless_freeze {a : Arg} {es : List Edit} (h : a.freeze = some es) : Rootless es := by
  obtain ⟨sv, rt⟩ := a
  have key : ∀ (s : Nat) (o : OV) (c : Option Nat) (v : PV), one (setAt s o c (.val v)) = some es → Rootless es := by
    intro s o c v hh
    cases hs : setAt s o c (.val v) with
    | none => rw [hs] at hh; cases hh
    | some e =>
      rw [hs] at hh
      simp only [one, Option.some.injEq] at hh
      subst hh
      intro e' he'
      simp at he'
      subst he'
      rcases setAt_spec hs with ⟨_, rfl⟩ | ⟨_, _, _, _, _, _, _, rfl⟩ <;> rfl
  cases sv with
  | home o => simp only [Arg.freeze, Option.some.injEq] at h; subst h; intro e he; cases he
  | fadr sh p => simp only [Arg.freeze, Option.some.injEq] at h; subst h; intro e he; cases he
  | ref s c =>
    cases rt with
    | none => simp [Arg.freeze] at h
    | some p =>
      simp only [Arg.freeze] at h
      split at h
      · split at h
        · exact key _ _ _ _ h
        · cases h
      · cases h
  | view s c l u =>
    cases rt with
    | none => simp [Arg.freeze] at h
    | some p =>
      simp only [Arg.freeze] at h
      split at h
      · split at h
        · exact key _ _ _ _ h
        · cases h
      · cases h
  | dead => simp [Arg.freeze] at h
  | adr s j => simp [Arg.freeze] at h
  | adrx s j => simp [Arg.freeze] at h
  | adre s c i off => simp [Arg.freeze] at h
  | rng s j n => simp [Arg.freeze] at h

/-- What is put back, argument by argument. -/
inductive Backs (ms : List Md) (as : List Arg) (outs : List OV) : List (Nat × Edit × Edit) → Prop
  | nil : Backs ms as outs []
  | cons (i : Nat) (p e : Edit) (l : List (Nat × Edit × Edit)) (h : Back ms as outs i p e) (hr : Backs ms as outs l) (hne : ∀ x ∈ l, x.1 ≠ i) : Backs ms as outs ((i, p, e) :: l)

theorem Back.shift {ms : List Md} {a : Arg} {as : List Arg} {outs : List OV} {i : Nat} {p e : Edit} (h : Back ms.tail as outs.tail i p e) : Back ms (a :: as) outs (i + 1) p e := by
  obtain ⟨b, s, c, o, kd, s', h1, h2, h3, h4, h5, h6⟩ := h.ex
  refine ⟨b, s, c, o, kd, s', by simpa using h1, h2, h3, by rw [modeAt_succ]; exact h4, ?_, h6⟩
  have : (outs[i + 1]?) = outs.tail[i]? := by cases outs <;> simp
  rw [this]; exact h5
theorem Backs.shift {ms : List Md} {a : Arg} {as : List Arg} {outs : List OV} {l : List (Nat × Edit × Edit)} (h : Backs ms.tail as outs.tail l) : Backs ms (a :: as) outs (l.map fun x => (x.1 + 1, x.2)) := by
  induction h with
  | nil => exact .nil
  | cons i p e l hb hr hne ih =>
    refine .cons _ _ _ _ hb.shift ih ?_
    intro x hx
    obtain ⟨y, hy, rfl⟩ := List.mem_map.1 hx
    have := hne y hy
    dsimp only
    omega

theorem argEdits_split {plain : Bool} : ∀ {as : List Arg} {ms : List Md} {os outs : List OV} {es : List Edit}, argEdits plain ms as outs = some es → argOVs ms as = some os →
    ∃ pes l, preps plain ms as = some pes ∧ Twofold es pes (l.map (·.2.2)) ∧ Backs ms as outs l ∧ (∀ x ∈ l, x.2.1 ∈ pes) ∧ Rootless es ∧ Rootless pes
  | [], ms, os, outs, es, h, _ => by
    simp only [argEdits, Option.some.injEq] at h
    subst h
    exact ⟨[], [], rfl, .nil, .nil, fun x hx => (by cases hx), fun x hx => (by cases hx), fun x hx => (by cases hx)⟩
  | a :: as, ms, os, outs, es, h, ho => by
    simp only [argEdits] at h
    split at h
    case h_2 => cases h
    rename_i e1 e2 h1 h2
    cases h
    simp only [argOVs] at ho
    split at ho
    case h_2 => cases ho
    rename_i o os' ho1 ho2
    cases ho
    obtain ⟨pes, l, g1, g2, g3, g4, g5, g6⟩ := argEdits_split h2 ho2
    have once : ∀ (x : List Edit), prep plain (ms.headD .ro) a = some x → e1 = x → Rootless x → ∃ pes l, preps plain ms (a :: as) = some pes ∧ Twofold (e1 ++ e2) pes (l.map (·.2.2)) ∧ Backs ms (a :: as) outs l ∧ (∀ x ∈ l, x.2.1 ∈ pes) ∧ Rootless (e1 ++ e2) ∧ Rootless pes := by
      intro x hx he hr
      subst he
      refine ⟨e1 ++ pes, l.map fun x => (x.1 + 1, x.2), by simp only [preps, hx, g1], ?_, g3.shift, fun y hy => ?_, fun y hy => ?_, fun y hy => ?_⟩
      · have : ∀ es : List Edit, Twofold es es [] := by
          intro es
          induction es with
          | nil => exact .nil
          | cons e es ih => exact .once _ _ _ _ ih
        have h3 := (this e1).append g2
        simpa [Function.comp_def] using h3
      · obtain ⟨z, hz, rfl⟩ := List.mem_map.1 hy
        have := g4 z hz
        simp [this]
      · rcases List.mem_append.1 hy with hy | hy
        · exact hr y hy
        · exact g5 y hy
      · rcases List.mem_append.1 hy with hy | hy
        · exact hr y hy
        · exact g6 y hy
    unfold argEdit at h1
    split at h1
    · rename_i hm
      split at h1
      · simp only [Option.some.injEq] at h1
        exact once [] (by simp only [prep, hm]) h1.symm (fun x hx => by cases hx)
      · exact once e1 (by simp only [prep, hm]; exact h1) rfl (rootless_freeze h1)
    · rename_i hm
      rcases argOV_spec ho1 with ⟨hro, _⟩ | ⟨_, hov⟩
      · rw [hm] at hro; cases hro
      · exact once e1 (by simp only [prep, hm]; exact h1) rfl (rootless_take hov h1)
    · rename_i kd hm
      split at h1
      case h_2 => cases h1
      rename_i x1 x2 x3 ps s c s' o' ht hsv hrt
      split at h1
      case h_2 => cases h1
      rename_i hpo
      rcases argOV_spec ho1 with ⟨hro, _⟩ | ⟨_, hov⟩
      · rw [hm] at hro; cases hro
      cases hs : setAt s o' c (outs.headD (.flat .gone)) with
      | none => rw [hs] at h1; cases h1
      | some e =>
        rw [hs] at h1
        simp only [one, Option.some.injEq] at h1
        subst h1
        obtain ⟨p, rfl, hps⟩ := take_on hov ht (s := s) (by rw [hsv]; rfl)
        have hrl := rootless_take hov ht
        have hcut : p.s = e.s ∧ p.cut = e.cut ∧ e.v.root = none := by
          obtain ⟨sv, rt⟩ := a
          dsimp only at hsv hrt
          subst hsv; subst hrt
          rcases setAt_spec hs with ⟨rfl, rfl⟩ | ⟨j, k, cs, g, rfl, rfl, _, rfl⟩
          · simp only [Arg.take, Option.some.injEq, List.cons.injEq, and_true] at ht
            subst ht; exact ⟨rfl, rfl, rfl⟩
          · simp only [Arg.take] at ht
            cases hs2 : setAt s (.cont k cs) (some j) (.flat .gone) with
            | none => rw [hs2] at ht; cases ht
            | some e2 =>
              rw [hs2] at ht
              simp only [one, Option.some.injEq, List.cons.injEq, and_true] at ht
              subst ht
              rcases setAt_spec hs2 with ⟨q, _⟩ | ⟨j2, k2, cs2, g2, q1, q2, _, rfl⟩
              · cases q
              · cases q1; exact ⟨rfl, rfl, rfl⟩
        refine ⟨[p] ++ pes, (0, p, e) :: l.map fun x => (x.1 + 1, x.2), ?_, ?_, ?_, fun y hy => ?_, fun y hy => ?_, fun y hy => ?_⟩
        · have : prep plain (ms.headD .ro) a = some [p] := by simp only [prep, hm]; exact ht
          simp only [preps, this, g1]
        · have := Twofold.twice e p e2 pes _ hcut.1 hcut.2.1 g2
          simpa [Function.comp_def] using this
        · refine .cons _ _ _ _ ⟨a, s, c, o', kd, s', rfl, hsv, hrt, by rw [modeAt_zero]; exact hm, ?_, ht, hcut.1, hcut.2.1⟩ g3.shift ?_
          · cases outs with
            | nil => exact ⟨by simpa using hs, by simpa using hpo⟩
            | cons z zs => exact ⟨by simpa using hs, by simpa using hpo⟩
          · intro x hx
            obtain ⟨y, _, rfl⟩ := List.mem_map.1 hx
            simp
        · rcases List.mem_cons.1 hy with rfl | hy
          · simp
          · obtain ⟨z, hz, rfl⟩ := List.mem_map.1 hy
            have := g4 z hz
            simp [this]
        · rcases List.mem_append.1 hy with hy | hy
          · simp at hy; subst hy; exact hcut.2.2
          · exact g5 y hy
        · rcases List.mem_append.1 hy with hy | hy
          · exact hrl y hy
          · exact g6 y hy
end
end Go.Ev

namespace Go.Ev

def resultVal (n : Nat) (f : Nat → Value) : Value := match n with
  | 0 => .tuple #[]
  | 1 => f 0
  | n => .tuple ((List.range n).map f).toArray

/-- What a call leaves: its results, and what its arguments own now. -/
structure CallOut (w w' : World) (Oc : Nat → Prop) (ab : Blk) (us : List Value) (rs outs : List OV) (v : Value) : Prop where
  ex : ∃ (N : Nat) (st : Slots) (tm : Nat → Value) (ob : Blk), SRel w' Oc st tm ob ∧ (∀ t c k, ob t c = some k → ab.has k ∨ w.heap.size ≤ k) ∧ us.length ≤ N ∧
    (∀ (i : Nat) (o : OV), outs[i]? = some o → o ≠ .flat .gone → st.get i = .home o ∧ tm i = us.getD i Go.undef ∧ i < us.length) ∧ (∀ (j : Nat) (o : OV), rs[j]? = some o → st.get (N + j) = .home o) ∧ v = resultVal rs.length (fun j => tm (N + j))

/-- A call of a function: with what it takes, and what it gives. -/
def CallSpec (P : Program) (f : FuncId) (os rs outs : List OV) : Prop :=
  ∀ (w : World) (Oc : Nat → Prop) (us : List Value) (ab : Blk), us.length = os.length → (∀ k, Oc k → k < w.heap.size) → SRel w Oc (startSlots 0 os) (fun t => us.getD t Go.undef) ab →
    Calls P f us.toArray w fun e w' => ∃ v, e = .returned v ∧ Grow w w' ab ∧ CallOut w w' Oc ab us rs outs v

structure AfterCall (w w' : World) (Oc : Nat → Prop) (st : Slots) (tm : Nat → Value) (blk : Blk) (r : List Edit × SV) (v : Value) : Prop where
  ex : ∃ blk' pb, Grow w w' blk ∧ Pend w' Oc (edits r.1 st) tm blk' r.2 v pb ∧ (∀ t c k, blk' t c = some k → blk.has k ∨ w.heap.size ≤ k) ∧ (∀ c k, pb c = some k → blk.has k ∨ w.heap.size ≤ k)

section
variable {P : Program} {w w' : World} {Oc : Nat → Prop} {st : Slots} {tm : Nat → Value} {blk : Blk}

theorem okOs_get : ∀ {ts : List TypeId} {ks : List RK} {rs : List OV}, okOs P ts ks rs = true → (mkOs P ts ks rs).length = rs.length ∧
    ∀ (j : Nat) (o' : OV), (mkOs P ts ks rs)[j]? = some o' → ∃ t k o, rs[j]? = some o ∧ okO P t k o = true ∧ o' = mkO P t k o ∧ (ovsPlain P ts (mkOs P ts ks rs) = true → ovPlain P t o' = true)
  | [], _, [], _ => ⟨rfl, fun j o' h => by simp [mkOs] at h⟩
  | [], _, _ :: _, h => by simp [okOs] at h
  | _ :: _, _, [], h => by simp [okOs] at h
  | t :: ts, ks, o :: os, h => by
    simp only [okOs, Bool.and_eq_true] at h
    obtain ⟨h1, h2⟩ := okOs_get h.2
    simp only [mkOs, List.headD_cons, List.tail_cons]
    refine ⟨by simp [h1], fun j o' hj => ?_⟩
    cases j with
    | zero =>
      simp only [List.getElem?_cons_zero, Option.some.injEq] at hj
      subst hj
      exact ⟨t, _, o, rfl, h.1, rfl, fun hp => by simp only [ovsPlain, Bool.and_eq_true] at hp; exact hp.1⟩
    | succ j =>
      obtain ⟨t', k, o2, g1, g2, g3, g4⟩ := h2 j o' (by simpa using hj)
      exact ⟨t', k, o2, g1, g2, g3, fun hp => g4 (by simp only [ovsPlain, Bool.and_eq_true] at hp; exact hp.2)⟩

theorem okOuts_get : ∀ {ms : List Md} {ts : List TypeId} {outs : List OV}, okOuts P ts ms outs = true → ∀ (i : Nat) (kd : RK), modeAt ms i = .io kd →
    ∃ t, okO P t kd ((outs[i]?).getD (.flat .gone)) = true ∧ (mkOuts P ts ms outs)[i]? = some (mkO P t kd ((outs[i]?).getD (.flat .gone))) ∧ (outsPlain P ts ms (mkOuts P ts ms outs) = true → ovPlain P t (mkO P t kd ((outs[i]?).getD (.flat .gone))) = true)
  | [], _, _, _, i, kd, hm => by simp [modeAt] at hm
  | m :: ms, ts, outs, h, i, kd, hm => by
    have hget : ∀ i : Nat, outs.tail[i]? = outs[i + 1]? := fun i => by cases outs <;> simp
    cases i with
    | zero =>
      simp [modeAt] at hm
      subst hm
      simp only [okOuts, Bool.and_eq_true] at h
      have h0 : outs.headD (.flat .gone) = (outs[0]?).getD (.flat .gone) := by cases outs <;> rfl
      rw [h0] at h
      refine ⟨ts.headD 0, h.1, by simp only [mkOuts, List.getElem?_cons_zero, h0], fun hp => ?_⟩
      simp only [mkOuts, outsPlain, Bool.and_eq_true, List.headD_cons, h0] at hp
      exact hp.1
    | succ i =>
      have hm' : modeAt ms i = .io kd := by rw [modeAt_succ] at hm; exact hm
      cases m with
      | io k =>
        simp only [okOuts, Bool.and_eq_true] at h
        obtain ⟨t, g1, g2, g3⟩ := okOuts_get h.2 i kd hm'
        rw [hget] at g1 g2 g3
        refine ⟨t, g1, by simpa [mkOuts] using g2, fun hp => g3 ?_⟩
        simp only [mkOuts, outsPlain, Bool.and_eq_true, List.tail_cons] at hp
        exact hp.2
      | ro =>
        simp only [okOuts] at h
        obtain ⟨t, g1, g2, g3⟩ := okOuts_get h i kd hm'
        rw [hget] at g1 g2 g3
        refine ⟨t, g1, by simpa [mkOuts] using g2, fun hp => g3 ?_⟩
        simpa only [mkOuts, outsPlain, List.tail_cons] using hp
      | tk =>
        simp only [okOuts] at h
        obtain ⟨t, g1, g2, g3⟩ := okOuts_get h i kd hm'
        rw [hget] at g1 g2 g3
        refine ⟨t, g1, by simpa [mkOuts] using g2, fun hp => g3 ?_⟩
        simpa only [mkOuts, outsPlain, List.tail_cons] using hp

theorem get_start : ∀ (os : List OV) (n t : Nat), (startSlots n os).get t = if n ≤ t then (match os[t - n]? with | some o => .home o | none => .dead) else .dead
  | [], n, t => by simp [startSlots, Slots.get]
  | o :: os, n, t => by
    simp only [startSlots, Slots.get]
    by_cases h : t = n
    · subst h; simp
    · rw [nbeq h]
      dsimp only
      rw [get_start os (n + 1) t]
      by_cases h1 : n ≤ t
      · have h2 : n + 1 ≤ t := by omega
        rw [if_pos h1, if_pos h2]
        have : t - n = (t - (n + 1)) + 1 := by omega
        rw [this, List.getElem?_cons_succ]
      · rw [if_neg h1, if_neg (by omega)]

/-- The slots of edits hold what was laid there. -/
theorem get_edits_far : ∀ {es : List Edit} {st : Slots} {t : Nat}, (∀ e ∈ es, e.s ≠ t) → (st.get t).root = none → (edits es st).get t = st.get t
  | [], _, _, _, _ => rfl
  | e :: es, st, t, h, hr => by
    have h1 : (e.on st).get t = st.get t := by
      rw [get_e, if_neg fun x => h e (by simp) x.symm, Cut.one_far]
      rw [hr]; simp
    show (edits es (e.on st)).get t = _
    rw [get_edits_far (fun f hf => h f (by simp [hf])) (by rw [h1]; exact hr), h1]
theorem get_edits_mem : ∀ {es : List Edit} {st : Slots} {p : Edit}, onceEach es = true → Rootless es → p ∈ es → (edits es st).get p.s = p.v
  | [], _, _, _, _, h => by cases h
  | e :: es, st, p, ho, hr, h => by
    simp only [onceEach, Bool.and_eq_true] at ho
    rcases List.mem_cons.1 h with rfl | h
    · have hn := notOn_iff.1 ho.1
      show (edits es (p.on st)).get p.s = _
      have h1 : (p.on st).get p.s = p.v := by rw [get_e, if_pos rfl]
      rw [get_edits_far (fun f hf hs => hn (List.mem_map.2 ⟨f, hf, hs⟩)) (by rw [h1]; exact hr p (by simp)), h1]
    · show (edits es (e.on st)).get p.s = p.v
      exact get_edits_mem ho.2 (fun x hx => hr x (by simp [hx])) h

theorem Pend.same {w : World} {Oc : Nat → Prop} {st st' : Slots} {tm : Nat → Value} {blk : Blk} {v : SV} {u : Value} {pb : Option Nat → Option Nat} (h : Pend w Oc st tm blk v u pb) (hd : Same st' st) : Pend w Oc st' tm blk v u pb :=
  ⟨h.base.same hd, h.inj, h.out, h.rep.move ⟨fun k _ hno => ⟨rfl, hno⟩, fun _ _ => rfl⟩ fun s _ o ho => ⟨by rw [← hd s]; exact ho, rfl, fun _ _ _ _ _ _ => rfl⟩⟩
end
end Go.Ev

namespace Go.Ev

section
variable {P : Program} {w w' : World} {Oc : Nat → Prop} {st : Slots} {tm : Nat → Value} {blk : Blk}

/-- What is put back, one by one: the frame goes on owning what the call left. -/
theorem backs_loop {ms : List Md} {as : List Arg} {us : List Value} {outs : List OV} {pes : List Edit} {blk0 blk1 ab ob : Blk} {FO : Nat → Prop} (ha : ArgsRep w (blk0.off Oc) st tm as us)
    (hH : SRel w (fun k => Oc k ∨ ab.has k) (edits pes st) tm blk1) (hG : Grow w w' ab) (hrp : Rootless pes) (hop : onceEach pes = true)
    (hob : ∀ t c k, ob t c = some k → ¬ Oc k ∧ k < w'.heap.size) (hinj : ∀ t c t' c' k, ob t c = some k → ob t' c' = some k → t = t' ∧ c = c')
    (hU : ∀ (i : Nat) (kd : RK), modeAt ms i = .io kd → ∃ o u, outs[i]? = some o ∧ us[i]? = some u ∧ ORep w' FO o u (ob i none) (fun j => ob i (some j)) ∧ (∀ f, o = .flat f → f.whole = true))
    (hFO : ∀ k, (blk1.off Oc k ∨ ob.has k) → FO k) :
    ∀ (l : List (Nat × Edit × Edit)), Backs ms as outs l → onceEach (l.map (·.2.2)) = true → (∀ x ∈ l, x.2.1 ∈ pes ∧ x.2.1.s = x.2.2.s) → ∀ (st' : Slots) (blk' : Blk) (S : Nat → Prop),
      SRel w' (fun k => Oc k ∨ ∃ t c, S t ∧ ob t c = some k) st' tm blk' → (∀ t c k, blk' t c = some k → blk1 t c = some k ∨ ob.has k) → (∀ x ∈ l, S x.1) → (∀ x ∈ l, st'.get x.2.1.s = x.2.1.v) →
      ∃ blk'', SRel w' (fun k => Oc k ∨ ∃ t c, (S t ∧ ∀ x ∈ l, x.1 ≠ t) ∧ ob t c = some k) (edits (l.map (·.2.2)) st') tm blk'' ∧ (∀ t c k, blk'' t c = some k → blk1 t c = some k ∨ ob.has k)
  | [], _, _, _, st', blk', S, h, hb, _, _ => ⟨blk', h.world (Nat.le_refl _) (fun _ _ _ => rfl) (fun k _ q => by
      rcases q with q | ⟨t, c, ⟨q, _⟩, q'⟩
      · exact .inl q
      · exact .inr ⟨t, c, q, q'⟩), hb⟩
  | (i, p, e) :: l, hB, ho, hpes, st', blk', S, h, hb, hS, hpl => by
    cases hB with
    | cons _ _ _ _ hback hrest hne =>
    simp only [List.map_cons, onceEach, Bool.and_eq_true] at ho
    obtain ⟨a, s, c, o, kd, s', h1, h2, h3, h4, ⟨h5, h5'⟩, h6, h7, h8⟩ := hback.ex
    obtain ⟨out, u, u1, u2, u3, u4⟩ := hU i kd h4
    rw [u1] at h5 h5'
    simp only [Option.getD_some] at h5 h5'
    obtain ⟨u', g1, g2⟩ := ha.get.2 i a h1
    rw [u2] at g1
    cases g1
    have hroot := g2.root s' o h3
    have hss : s = s' := by have := hroot.2; rw [h2] at this; exact Option.some.inj this
    subst hss
    have hrep := g2.rep
    rw [h2] at hrep
    obtain ⟨⟨x0, hx0⟩, hpath⟩ := hrep.2 o hroot.1
    have hSi : S i := hS (i, p, e) (by simp)
    let S' : Nat → Prop := fun t => S t ∧ t ≠ i
    -- what is left beside the frame
    have hOsub : ∀ k, (Oc k ∨ ∃ t c, S' t ∧ ob t c = some k) → (Oc k ∨ ∃ t c, S t ∧ ob t c = some k) := by
      rintro k (q | ⟨t, c, q, q'⟩)
      · exact .inl q
      · exact .inr ⟨t, c, q.1, q'⟩
    have hmine : ∀ c k, ob i c = some k → (Oc k ∨ ∃ t c, S t ∧ ob t c = some k) ∧ ¬ (Oc k ∨ ∃ t c, S' t ∧ ob t c = some k) ∧ k < w'.heap.size := by
      intro c k q
      refine ⟨.inr ⟨i, c, hSi, q⟩, ?_, (hob _ _ _ q).2⟩
      rintro (q' | ⟨t, c', q', q''⟩)
      · exact (hob _ _ _ q).1 q'
      · exact q'.2 (hinj _ _ _ _ _ q'' q).1
    have hFO' : ∀ (b' : Option Nat → Option Nat), (∀ c k, b' c = some k → blk' s c = some k ∨ ob.has k) → ∀ k, Blk.off (updN blk' s b') (fun k => Oc k ∨ ∃ t c, S' t ∧ ob t c = some k) k → FO k := by
      rintro b' hb' k (⟨t, c, q⟩ | q | ⟨t, c, _, q⟩)
      · by_cases ht : t = s
        · subst ht
          rw [updN_same] at q
          rcases hb' c k q with q | q
          · rcases hb _ _ _ q with q | q
            · exact hFO k (.inl (.inl ⟨_, _, q⟩))
            · exact hFO k (.inr q)
          · exact hFO k (.inr q)
        · rw [updN_ne _ _ ht] at q
          rcases hb _ _ _ q with q | q
          · exact hFO k (.inl (.inl ⟨_, _, q⟩))
          · exact hFO k (.inr q)
      · exact hFO k (.inl (.inr q))
      · exact hFO k (.inr ⟨t, c, q⟩)
    have hpm : p ∈ pes := (hpes (i, p, e) (by simp)).1
    have hplp : st'.get p.s = p.v := hpl (i, p, e) (by simp)
    -- the step
    have step : ∃ blk2, SRel w' (fun k => Oc k ∨ ∃ t c, S' t ∧ ob t c = some k) (e.on st') tm blk2 ∧ (∀ t c k, blk2 t c = some k → blk1 t c = some k ∨ ob.has k) := by
      rcases setAt_spec h5 with ⟨rfl, rfl⟩ | ⟨j, k, cs, g, rfl, rfl, rfl, rfl⟩
      · have htop := hpath.top_eq
        subst htop
        refine ⟨_, h.fillAll (Oc' := fun k => Oc k ∨ ∃ t c, S' t ∧ ob t c = some k) (b := ob i) hOsub (u3.move ⟨fun k _ hno => ⟨rfl, fun q => hno (hFO' _ (fun c k q => .inr ⟨i, c, q⟩) k q)⟩, fun _ _ => rfl⟩) (fun c c' x q q' => (hinj _ _ _ _ _ q q').2) (fun c x q => hmine c x q), fun t c k q => ?_⟩
        by_cases ht : t = s
        · subst ht; rw [updN_same] at q; exact .inr ⟨i, c, q⟩
        · rw [updN_ne _ _ ht] at q; exact hb _ _ _ q
      · -- a cell
        obtain ⟨k', cs', f, hk', hj', _⟩ := at_cont hx0
        cases hk'
        have hjl : j < cs.length := (List.getElem?_eq_some_iff.1 hj').1
        have hp : p = ⟨s, .home (.cont k (cs.set j .gone)), .cells j 1⟩ := by
          obtain ⟨sv, rt⟩ := a
          dsimp only at h2 h3
          subst h2; subst h3
          simp only [Arg.take] at h6
          cases hs2 : setAt s (.cont k cs) (some j) (.flat .gone) with
          | none => rw [hs2] at h6; cases h6
          | some e2 =>
            rw [hs2] at h6
            simp only [one, Option.some.injEq, List.cons.injEq, and_true] at h6
            subst h6
            rcases setAt_spec hs2 with ⟨q, _⟩ | ⟨j2, k2, cs2, g2, q1, q2, q3, q4⟩
            · cases q
            · cases q1; cases q2; cases q3; exact q4
        have hst1 : (edits pes st).get s = .home (.cont k (cs.set j .gone)) := by
          have := get_edits_mem (st := st) hop hrp hpm
          rw [hp] at this; exact this
        have hst' : st'.get s = .home (.cont k (cs.set j .gone)) := by
          have := hplp
          rw [hp] at this; exact this
        have hcell : ∀ q b, blockOf (tm s) = some b → w'.cell? ⟨b, q, none⟩ = w.cell? ⟨b, q, none⟩ := by
          intro q b hbo
          have hr1 := hH.rep s
          rw [hst1] at hr1
          have hm := ORep.block hr1 (fun e0 => by have h0 := congrArg List.length e0; rw [List.length_set] at h0; simp only [List.length_nil] at h0; omega) b hbo
          have ho1 := hH.out _ _ _ hm
          exact cell_same (hG.same b ho1.2 fun q => ho1.1 (.inr q))
        have hz := hpath.recs (cs' := cs.set j .gone) hcell
        obtain ⟨hf, hfn⟩ := u3.flat_inv
        have hgok : g.cellOk := by
          cases g with
          | val v => exact h5'
          | _ => trivial
        have hfill := h.fill (Oc' := fun k => Oc k ∨ ∃ t c, S' t ∧ ob t c = some k) (g := g) (m := ob i none) hst' (by simpa using hjl) hz
          (hf.move ⟨fun k _ hno => ⟨rfl, fun q => hno (hFO' _ (fun c k q => by
            split at q
            · exact .inr ⟨i, none, q⟩
            · exact .inl q) k q)⟩, fun _ _ => rfl⟩) hgok (u4 g rfl) hOsub (fun x q => hmine none x q)
        rw [List.set_set] at hfill
        refine ⟨_, hfill, fun t c x q => ?_⟩
        by_cases ht : t = s
        · subst ht
          rw [updN_same] at q
          split at q
          · exact .inr ⟨i, none, q⟩
          · exact hb _ _ _ q
        · rw [updN_ne _ _ ht] at q; exact hb _ _ _ q
    obtain ⟨blk2, k1, k2⟩ := step
    obtain ⟨blk3, m1, m2⟩ := backs_loop ha hH hG hrp hop hob hinj hU hFO l hrest ho.2 (fun x hx => hpes x (by simp [hx])) (e.on st') blk2 S' k1 k2 (fun x hx => ⟨hS x (by simp [hx]), hne x hx⟩) (fun x hx => by
      have hx1 := hpl x (by simp [hx])
      have hxs := hpes x (by simp [hx])
      have hes : x.2.1.s ≠ e.s := by
        intro heq
        exact notOn_iff.1 ho.1 (List.mem_map.2 ⟨x.2.2, List.mem_map.2 ⟨x, hx, rfl⟩, by rw [← hxs.2, heq]⟩)
      rw [get_e, if_neg hes, hx1, Cut.one_far]
      rw [hrp _ hxs.1]; simp)
    refine ⟨blk3, ?_, m2⟩
    show SRel w' _ (edits (l.map (·.2.2)) (e.on st')) tm blk3
    refine m1.world (Nat.le_refl _) (fun _ _ _ => rfl) (fun k _ q => ?_)
    rcases q with q | ⟨t, c, ⟨q1, q2⟩, q3⟩
    · exact .inl q
    · refine .inr ⟨t, c, ⟨⟨q1, fun e0 => q2 (i, p, e) (by simp) e0.symm⟩, fun x hx => q2 x (by simp [hx])⟩, q3⟩
end
end Go.Ev

