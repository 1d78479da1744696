/- An evaluator of the model's code over pure data, and why it is right: part 6. -/
import Derived.Test.YtnieankaikhmnaaEve
import Derived.Orders
import Derived.Scope

set_option linter.unusedVariables false

set_option linter.unusedSimpArgs false

set_option linter.unusedSectionVars false

namespace Go.Ev

section
variable {w w' : World} {Oc : Nat → Prop} {st : Slots} {tm : Nat → Value} {blk : Blk}

theorem flats_spec : ∀ {rs : List OV} {fs : List FV}, flats rs = some fs → fs.length = rs.length ∧ ∀ (j : Nat) (f : FV), fs[j]? = some f → rs[j]? = some (.flat f)
  | [], fs, h => by simp only [flats, Option.some.injEq] at h; subst h; exact ⟨rfl, fun j f hj => by simp at hj⟩
  | .flat f :: r, fs, h => by
    simp only [flats] at h
    split at h
    · rename_i fs' h1
      cases h
      obtain ⟨g1, g2⟩ := flats_spec h1
      refine ⟨by simp [g1], fun j g hj => ?_⟩
      cases j with
      | zero => simp at hj; subst hj; rfl
      | succ j => exact g2 j g (by simpa using hj)
    · cases h
  | .cont _ _ :: r, fs, h => by simp [flats] at h
  | .tn _ _ :: r, fs, h => by simp [flats] at h

theorem vals_spec : ∀ {rs : List OV} {vs : List PV}, vals rs = some vs → vs.length = rs.length ∧ ∀ (j : Nat) (v : PV), vs[j]? = some v → rs[j]? = some (.flat (.val v))
  | [], vs, h => by simp only [vals, Option.some.injEq] at h; subst h; exact ⟨rfl, fun j f hj => by simp at hj⟩
  | .flat (.val v) :: r, vs, h => by
    simp only [vals] at h
    split at h
    · rename_i vs' h1
      cases h
      obtain ⟨g1, g2⟩ := vals_spec h1
      refine ⟨by simp [g1], fun j g hj => ?_⟩
      cases j with
      | zero => simp at hj; subst hj; rfl
      | succ j => exact g2 j g (by simpa using hj)
    · cases h
  | .flat (.nil _) :: r, vs, h => by simp [vals] at h
  | .flat (.own ..) :: r, vs, h => by simp [vals] at h
  | .flat .gone :: r, vs, h => by simp [vals] at h
  | .cont _ _ :: r, vs, h => by simp [vals] at h
  | .tn _ _ :: r, vs, h => by simp [vals] at h

theorem onceEach_slots : ∀ {ps es : List Edit}, ps.map (·.s) = es.map (·.s) → onceEach es = true → onceEach ps = true
  | [], _, _, _ => rfl
  | p :: ps, [], h, _ => by simp at h
  | p :: ps, e :: es, h, ho => by
    simp only [List.map_cons, List.cons.injEq] at h
    simp only [onceEach, Bool.and_eq_true] at ho ⊢
    refine ⟨?_, onceEach_slots h.2 ho.2⟩
    rw [notOn_iff, h.1, h.2]
    exact notOn_iff.1 ho.1

theorem okO_gone {P : Program} {t : TypeId} {k : RK} : okO P t k (.flat .gone) = false := by
  cases k <;> simp [okO, okF]

/-- The value that comes beside the caller's frame. -/
theorem result_rep {N : Nat} {tmO : Nat → Value} {ob : Blk} {O : Nat → Prop} {rs : List OV} {sv : SV} {stF : Slots} (h : resultSV rs = some sv)
    (hr : ∀ (j : Nat) (o : OV), rs[j]? = some o → ORep w' O o (tmO (N + j)) (ob (N + j) none) (fun q => ob (N + j) (some q)))
    (hinj : ∀ t c t' c' k, ob t c = some k → ob t' c' = some k → t = t' ∧ c = c') :
    ∃ pb, (∀ c c' k, pb c = some k → pb c' = some k → c = c') ∧ (∀ c k, pb c = some k → ∃ j c', j < rs.length ∧ ob (N + j) c' = some k) ∧ SVRep w' O stF tm sv (resultVal rs.length fun j => tmO (N + j)) pb := by
  match rs, h, hr with
  | [], h, _ =>
    simp only [resultSV, Option.some.injEq] at h
    subst h
    exact ⟨fun _ => none, fun _ _ _ q => (by cases q), fun _ _ q => (by cases q), .flat _ _ _ (.val _ _ .undef)⟩
  | [o], h, hr =>
    simp only [resultSV, Option.some.injEq] at h
    subst h
    exact ⟨ob N, fun c c' k q q' => (hinj _ _ _ _ _ q q').2, fun c k q => ⟨0, c, by simp, q⟩, hr 0 o rfl⟩
  | o1 :: o2 :: rs, h, hr =>
    have hsp : (∃ cs vs, o1 = .cont .nest cs ∧ vals (o2 :: rs) = some vs ∧ sv = .home (.tn cs vs)) ∨ (match flats (o1 :: o2 :: rs) with | some fs => some (SV.home (.cont .tup fs)) | none => none) = some sv := by
      cases o1 with
      | flat f => exact .inr h
      | tn => exact .inr h
      | cont k cs =>
        cases k with
        | nest =>
          simp only [resultSV] at h
          split at h
          · rename_i vs hv
            simp only [Option.some.injEq] at h
            exact .inl ⟨cs, vs, rfl, hv, h.symm⟩
          · cases h
        | _ => exact .inr h
    rcases hsp with ⟨cs, vs, rfl, hv, rfl⟩ | h
    · · obtain ⟨h1, h2⟩ := vals_spec hv
        refine ⟨ob N, fun c c' k q q' => (hinj _ _ _ _ _ q q').2, fun c k q => ⟨0, c, by simp, q⟩, ?_⟩
        have hn := hr 0 _ rfl
        refine ORep.tn cs vs _ (tmO N) (ob N none) _ hn (by simp [h1]) (by simp) fun j p hj => ?_
        have hlt := (List.getElem?_eq_some_iff.1 hj).1
        have := hr (j + 1) (.flat (.val p)) (by simpa using h2 j p hj)
        refine ⟨tmO (N + (j + 1)), ?_, this.flat_inv.1.val_inv.1⟩
        have : j + 1 < rs.length + 1 + 1 := by simp only [List.length_cons] at h1; omega
        simp [this]
    split at h
    · rename_i fs hf
      simp only [Option.some.injEq] at h
      subst h
      obtain ⟨h1, h2⟩ := flats_spec hf
      let β : Nat → Option Nat := fun j => if j < fs.length then ob (N + j) none else none
      let pb : Option Nat → Option Nat := fun c => match c with
        | none => none
        | some j => β j
      have hβ : ∀ j k, β j = some k → j < fs.length ∧ ob (N + j) none = some k := by
        intro j k q
        simp only [β] at q
        split at q
        · rename_i hj; exact ⟨hj, q⟩
        · cases q
      refine ⟨pb, fun c c' k q q' => ?_, fun c k q => ?_, ?_⟩
      · cases c with
        | none => cases q
        | some j =>
          cases c' with
          | none => cases q'
          | some j' =>
            have := (hinj _ _ _ _ _ (hβ j k q).2 (hβ j' k q').2).1
            have : j = j' := by omega
            rw [this]
      · cases c with
        | none => cases q
        | some j => exact ⟨j, none, by rw [← h1]; exact (hβ j k q).1, (hβ j k q).2⟩
      · refine ORep.tup fs _ β ?_ ⟨fun j f hj => ?_, fun j hj => ?_⟩
        · simp [h1]
        · have hlt := (List.getElem?_eq_some_iff.1 hj).1
          obtain ⟨g1, _⟩ := (hr j _ (h2 j f hj)).flat_inv
          refine ⟨tmO (N + j), ?_, ?_⟩
          · have : j < rs.length + 1 + 1 := by simpa [h1] using hlt
            simp [this]
          · have : β j = ob (N + j) none := by simp [β, hlt]
            rw [this]; exact g1
        · simp only [β]; rw [if_neg (by omega)]
    · cases h

theorem holds_ite {α : Type} {c : Bool} {a : α} {r : α} (h : (match c with | true => ok a | false => no : Q α).holds r) : c = true ∧ r = a := by
  cases c with
  | true => exact ⟨rfl, Q.holds_ok h⟩
  | false => exact (Q.holds_no h).elim

theorem call_after {C : Ctx} {f : FuncId} {as : List Arg} {us : List Value} {os rs outs : List OV} {r : List Edit × SV} (h : SRel w Oc st tm blk) (hOc : ∀ k, Oc k → k < w.heap.size) (ha : ArgsRep w (blk.off Oc) st tm as us)
    (hos : argOVs (C.mode f) as = some os) (hap : argsApart (C.mode f) as = true) (hr : (callEnd C f as rs outs).holds r) :
    ∃ OcC ab, us.length = os.length ∧ (∀ k, OcC k → k < w.heap.size) ∧ SRel w OcC (startSlots 0 os) (fun t => us.getD t Go.undef) ab ∧
      ∀ w' v, Grow w w' ab → CallOut w w' OcC ab us rs outs v → AfterCall w w' Oc st tm blk r v := by
  unfold callEnd at hr
  split at hr
  · exact (Q.holds_no hr).elim
  · rename_i fn hfn
    dsimp only at hr
    obtain ⟨hok, hr⟩ := Q.holds_need hr
    obtain ⟨hoko, hr⟩ := Q.holds_need hr
    split at hr
    · rename_i es sv hes hsv
      obtain ⟨hon, rfl⟩ := holds_ite hr
      obtain ⟨pes, l, hp, htw, hB, hlp, hre, hrp⟩ := argEdits_split hes hos
      have honp : onceEach pes = true := onceEach_slots htw.slots.1 hon
      obtain ⟨blk1, ab, Oi, H⟩ := preps_rep _ as us os (C.mode f) st blk Oc pes h ha hos hp honp hap
      have hlen : us.length = as.length := ha.get.1
      have hlo : os.length = as.length := by
        have : ∀ (ms : List Md) (as : List Arg) (os : List OV), argOVs ms as = some os → os.length = as.length := by
          intro ms as
          induction as generalizing ms with
          | nil => intro os q; simp only [argOVs, Option.some.injEq] at q; subst q; rfl
          | cons a as ih =>
            intro os q
            simp only [argOVs] at q
            split at q
            · rename_i o os' _ q2
              cases q
              simp [ih _ _ q2]
            · cases q
        exact this _ _ _ hos
      have habOc : ∀ i c k, ab i c = some k → ¬ Oc k ∧ k < w.heap.size := by
        intro i c k q
        obtain ⟨_, _, s, c', _, _, q'⟩ := H.from_ i c k q
        exact h.out _ _ _ q'
      have habhas : ∀ k, ab.has k → blk.has k := by
        rintro k ⟨i, c, q⟩
        obtain ⟨_, _, s, c', _, _, q'⟩ := H.from_ i c k q
        exact ⟨s, c', q'⟩
      refine ⟨fun k => blk1.off Oc k ∧ ∀ i, Oi i k, ab, by omega, fun k q => ?_, ⟨fun t => ?_, H.inj, fun t c k q => ⟨?_, (habOc t c k q).2⟩⟩, ?_⟩
      · rcases q.1 with ⟨t, c, q⟩ | q
        · exact (H.frame.out _ _ _ q).2
        · exact hOc k q
      · rw [get_start, if_pos (Nat.zero_le _), Nat.sub_zero]
        cases ho : os[t]? with
        | none => exact fun c => H.end_ t (by have := List.getElem?_eq_none_iff.1 ho; omega) c
        | some o =>
          have hlt := (List.getElem?_eq_some_iff.1 ho).1
          have hu : us[t]? = some (us[t]'(by omega)) := List.getElem?_eq_getElem _
          have hget : us.getD t Go.undef = us[t]'(by omega) := by simp [List.getD, hu]
          show ORep _ _ _ (us.getD t Go.undef) _ _
          rw [hget]
          refine (H.rep t o _ ho hu).move ⟨fun k _ hno => ⟨rfl, ?_⟩, fun _ _ => rfl⟩
          rintro (q | q)
          · exact hno (H.has t k q)
          · exact hno (q.2 t)
      · rintro ⟨q1 | q1, _⟩
        · obtain ⟨t', c', q1⟩ := q1
          exact (H.frame.out _ _ _ q1).1 (.inr ⟨t, c, q⟩)
        · exact (habOc t c k q).1 q1
      · intro w' v hG hco
        obtain ⟨N, stO, tmO, ob, hSO, hobs, hN, houts, hres, rfl⟩ := hco.ex
        have hob : ∀ t c k, ob t c = some k → ¬ Oc k ∧ k < w'.heap.size := by
          intro t c k q
          refine ⟨fun q' => ?_, (hSO.out _ _ _ q).2⟩
          rcases hobs t c k q with ⟨i, c', q2⟩ | q2
          · exact (habOc _ _ _ q2).1 q'
          · have := hOc k q'; omega
        let FO : Nat → Prop := fun k => blk1.off Oc k ∨ ob.has k
        have hframe : SRel w' (fun k => Oc k ∨ ∃ t c, True ∧ ob t c = some k) (edits pes st) tm blk1 := by
          refine H.frame.world hG.size (fun k hk hno => hG.same k hk fun q => hno (.inr q)) (fun k hk q => ?_)
          rcases q with q | ⟨t, c, _, q⟩
          · exact .inl q
          · rcases hobs t c k q with q2 | q2
            · exact .inr q2
            · omega
        -- what the call left, said beside the caller's frame
        have conv : ∀ (o o' : OV) (t : Nat) (ty : TypeId) (kd : RK), stO.get t = .home o → okO C.P ty kd o = true → o' = mkO C.P ty kd o →
            ((ovsPlain C.P fn.resultTypes.toList (mkOs C.P fn.resultTypes.toList (C.res f) rs) && outsPlain C.P fn.params.toList (C.mode f) (mkOuts C.P fn.params.toList (C.mode f) outs)) = true → ovPlain C.P ty o' = true) →
            ORep w' FO o' (tmO t) (ob t none) (fun j => ob t (some j)) := by
          intro o o' t ty kd hg hk he hpl
          have hrep := hSO.rep t
          rw [hg] at hrep
          have hrep : ORep w' (ob.off fun k => blk1.off Oc k ∧ ∀ i, Oi i k) o (tmO t) (ob t none) (fun j => ob t (some j)) := hrep
          subst he
          have h1 := mkO_rep hk hrep
          generalize hpn : (ovsPlain C.P fn.resultTypes.toList (mkOs C.P fn.resultTypes.toList (C.res f) rs) && outsPlain C.P fn.params.toList (C.mode f) (mkOuts C.P fn.params.toList (C.mode f) outs)) = pn at *
          cases pn with
          | true => exact h1.plain (hpl rfl) (mkO_typed hk)
          | false =>
            refine h1.move ⟨fun k _ hno => ⟨rfl, ?_⟩, fun _ _ => rfl⟩
            rintro (q | q)
            · exact hno (.inr ⟨q, fun i => H.loud rfl i k q⟩)
            · exact hno (.inl q)
        have hU : ∀ (i : Nat) (kd : RK), modeAt (C.mode f) i = .io kd → ∃ o u, (mkOuts C.P fn.params.toList (C.mode f) outs)[i]? = some o ∧ us[i]? = some u ∧ ORep w' FO o u (ob i none) (fun j => ob i (some j)) ∧ (∀ f, o = .flat f → f.whole = true) := by
          intro i kd hm
          obtain ⟨t, g1, g2, g3⟩ := okOuts_get hoko i kd hm
          cases ho : outs[i]? with
          | none => rw [ho] at g1; simp [okO_gone] at g1
          | some o =>
            rw [ho] at g1 g2 g3
            simp only [Option.getD_some] at g1 g2 g3
            obtain ⟨q1, q2, q3⟩ := houts i o ho (by rintro rfl; rw [okO_gone] at g1; cases g1)
            have hu : us[i]? = some (us[i]'q3) := List.getElem?_eq_getElem _
            have hget : us.getD i Go.undef = us[i]'q3 := by simp [List.getD, hu]
            refine ⟨_, _, g2, hu, ?_, mkO_whole g1⟩
            have := conv o _ i t kd q1 g1 rfl (fun q => by simp only [Bool.and_eq_true] at q; exact g3 q.2)
            rw [q2, hget] at this
            exact this
        have honb : onceEach (l.map (·.2.2)) = true := by
          have hsub : ∀ {es ps bs : List Edit}, Twofold es ps bs → onceEach es = true → onceEach bs = true := by
            intro es ps bs q
            induction q with
            | nil => exact fun _ => rfl
            | once e es ps bs q ih => intro q1; simp only [onceEach, Bool.and_eq_true] at q1; exact ih q1.2
            | twice e p es ps bs _ _ q ih =>
              intro q1
              simp only [onceEach, Bool.and_eq_true] at q1 ⊢
              refine ⟨?_, ih q1.2⟩
              rw [notOn_iff] at q1 ⊢
              intro q2
              obtain ⟨b, hb, hbs⟩ := List.mem_map.1 q2
              exact q1.1 (List.mem_map.2 ⟨b, q.slots.2 b hb, hbs⟩)
          exact hsub htw hon
        have hps : ∀ x ∈ l, x.2.1.s = x.2.2.s := by
          intro x hx
          have : ∀ {l : List (Nat × Edit × Edit)}, Backs (C.mode f) as (mkOuts C.P fn.params.toList (C.mode f) outs) l → ∀ x ∈ l, x.2.1.s = x.2.2.s := by
            intro l hl
            induction hl with
            | nil => intro x hx; cases hx
            | cons i p e l hb hr hne ih =>
              intro x hx
              rcases List.mem_cons.1 hx with rfl | hx
              · obtain ⟨_, _, _, _, _, _, _, _, _, _, _, _, q, _⟩ := hb.ex
                exact q
              · exact ih x hx
          exact this hB x hx
        have hidx : ∀ x ∈ l, x.1 < as.length := by
          intro x hx
          have : ∀ {l : List (Nat × Edit × Edit)}, Backs (C.mode f) as (mkOuts C.P fn.params.toList (C.mode f) outs) l → ∀ x ∈ l, x.1 < as.length := by
            intro l hl
            induction hl with
            | nil => intro x hx; cases hx
            | cons i p e l hb hr hne ih =>
              intro x hx
              rcases List.mem_cons.1 hx with rfl | hx
              · obtain ⟨_, _, _, _, _, _, q, _⟩ := hb.ex
                exact (List.getElem?_eq_some_iff.1 q).1
              · exact ih x hx
          exact this hB x hx
        obtain ⟨blk2, m1, m2⟩ := backs_loop (FO := FO) ha H.frame hG hrp honp hob hSO.inj hU (fun k q => q) l hB honb (fun x hx => ⟨hlp x hx, hps x hx⟩) (edits pes st) blk1 (fun _ => True) hframe (fun _ _ _ q => .inl q) (fun _ _ => trivial)
          (fun x hx => get_edits_mem honp hrp (hlp x hx))
        have hrr : ∀ (j : Nat) (o : OV), (mkOs C.P fn.resultTypes.toList (C.res f) rs)[j]? = some o → ORep w' FO o (tmO (N + j)) (ob (N + j) none) (fun q => ob (N + j) (some q)) := by
          intro j o' hj
          obtain ⟨t, kd, o, g1, g2, g3, g4⟩ := (okOs_get hok).2 j o' hj
          exact conv o o' (N + j) t kd (hres j o g1) g2 g3 (fun q => by simp only [Bool.and_eq_true] at q; exact g4 q.1)
        obtain ⟨pb, p1, p2, p3⟩ := result_rep (tm := tm) (stF := edits (l.map (·.2.2)) (edits pes st)) hsv hrr hSO.inj
        rw [(okOs_get hok).1] at p3
        refine ⟨⟨blk2, pb, ⟨hG.os, hG.tape, hG.output, hG.size, fun k hk hno => hG.same k hk fun q => hno (habhas k q)⟩, Pend.same ⟨m1.world (Nat.le_refl _) (fun _ _ _ => rfl) (fun k _ q => ?_), p1, fun c k q => ?_, p3.move ⟨fun k _ hno => ⟨rfl, fun q => hno ?_⟩, fun _ _ => rfl⟩ (fun s _ o ho => ⟨ho, rfl, fun _ _ _ _ _ _ => rfl⟩)⟩ (htw.same hon hre hrp st), fun t c k q => ?_, fun c k q => ?_⟩⟩
        · rcases q with q | ⟨c, q⟩
          · exact .inl q
          · obtain ⟨j, c', hj, q'⟩ := p2 c k q
            refine .inr ⟨N + j, c', ⟨trivial, fun x hx e0 => ?_⟩, q'⟩
            have := hidx x hx
            omega
        · obtain ⟨j, c', hj, q'⟩ := p2 c k q
          exact hob _ _ _ q'
        · rcases q with ⟨t, c, q⟩ | q | ⟨c, q⟩
          · rcases m2 _ _ _ q with q | q
            · exact .inl (.inl ⟨t, c, q⟩)
            · exact .inr q
          · exact .inl (.inr q)
          · obtain ⟨j, c', hj, q'⟩ := p2 c k q
            exact .inr ⟨_, _, q'⟩
        · rcases m2 _ _ _ q with q | ⟨t', c', q⟩
          · exact .inl ⟨_, _, H.sub _ _ _ q⟩
          · rcases hobs _ _ _ q with q | q
            · exact .inl (habhas k q)
            · exact .inr q
        · obtain ⟨j, c', hj, q'⟩ := p2 c k q
          rcases hobs _ _ _ q' with q | q
          · exact .inl (habhas k q)
          · exact .inr q
    · exact (Q.holds_no hr).elim
end
end Go.Ev

namespace Go.Ev

theorem needAll_some {α : Type} : ∀ {cs : List Bool} {t : Option α} {x : α}, needAll cs t = some x → (∀ c ∈ cs, c = true) ∧ t = some x
  | [], t, x, h => ⟨fun c hc => (by cases hc), h⟩
  | c :: cs, t, x, h => by
    cases c with
    | false => simp [needAll, needB] at h
    | true =>
      obtain ⟨h1, h2⟩ := needAll_some (cs := cs) (by simpa [needAll, needB] using h)
      exact ⟨fun d hd => by rcases List.mem_cons.1 hd with rfl | hd; rfl; exact h1 d hd, h2⟩
theorem endQ_some {α : Type} {o : Oper} {st : Slots} {q : Res} {k : Slots → List Edit → SV → Option α} {x : α} (h : endQ o st q k = some x) : ∃ r, q.holds r ∧ k (done o st r) r.1 r.2 = some x := by
  obtain ⟨h1, h2⟩ := needAll_some h
  split at h2
  · rename_i r hr; exact ⟨r, ⟨hr, h1⟩, h2⟩
  · cases h2

/-- What an operation comes to. -/
inductive Perf (C : Ctx) (rec : Rec) (o : Oper) (st : Slots) (r : List Edit × SV) : Prop
  | calls (fo : Operand) (args : Array Operand) (tys : Array TypeId) (g : FuncId) (as : List Arg) (os : List OV) (rr : List OV × List OV) (ho : o.op = .call ⟨.value fo, args, tys⟩) (h1 : callee C ⟨.value fo, args, tys⟩ st = some (g, as)) (h2 : argsApart (C.mode g) as = true)
      (h3 : argOVs (C.mode g) as = some os) (h4 : rec g os = some rr) (h5 : (callEnd C g as rr.1 rr.2).holds r)
  | plain (hn : ∀ fo args tys, o.op ≠ .call ⟨.value fo, args, tys⟩) (h : (compute C.P o st).holds r)

theorem perform_some {α : Type} {C : Ctx} {rec : Rec} {o : Oper} {st : Slots} {k : Slots → List Edit → SV → Option α} {x : α} (h : perform C rec o st k = some x) : ∃ r, Perf C rec o st r ∧ k (done o st r) r.1 r.2 = some x := by
  unfold perform at h
  split at h
  · rename_i f args tys ho
    split at h
    · cases h
    · rename_i g as hc
      split at h
      · rename_i os h2 h3
        unfold callB at h
        split at h
        · rename_i rr h4
          obtain ⟨r, h5, h6⟩ := endQ_some h
          exact ⟨r, .calls f args tys g as os rr ho hc h2 h3 h4 h5, h6⟩
        · cases h
      · cases h
  · rename_i hn
    obtain ⟨r, h5, h6⟩ := endQ_some h
    exact ⟨r, .plain (fun fo args tys e => hn fo args tys e) h5, h6⟩

/-- A slot's guard: performed, or passed by. -/
inductive Step1 (C : Ctx) (rec : Rec) (ops : Array Oper) (o : Oper) (st : Slots) : Slots → Foot → Prop
  | run (st0 : Slots) (hs : Same st0 st) (hg : o.guard = none ∨ ∃ j want g, o.guard = some (j, want) ∧ (ops[j]?).bind (·.dst) = some g ∧ st.get g = .val (.bool want)) (r : List Edit × SV) (hp : Perf C rec o st0 r) :
      Step1 C rec ops o st (done o st0 r) (footOf ops o st0 r.1 r.2)
  | skip (st0 : Slots) (hs : Same st0 st) (j : Nat) (want : Bool) (g : Nat) (h1 : o.guard = some (j, want)) (h2 : (ops[j]?).bind (·.dst) = some g) (h3 : st.get g = .val (.bool (!want)) ∨ st.get g = .val .undef) :
      Step1 C rec ops o st (skipped o st0) (skipFoot ops o)

theorem fix_same {st : Slots} {g : Nat} {b : Bool} (h : st.get g = .val (.bool b)) : Same (st.fix g b) st := by
  intro t
  unfold Slots.fix
  rw [get_ins]
  split
  · rename_i e; rw [e, h]
  · rfl

theorem stepK_some {α : Type} {C : Ctx} {rec : Rec} {ops : Array Oper} {o : Oper} {st : Slots} {k : Slots → Foot → Option α} {x : α} (h : stepK C rec ops o st k = some x) : ∃ st' f, Step1 C rec ops o st st' f ∧ k st' f = some x := by
  unfold stepK at h
  split at h
  · rename_i hg
    obtain ⟨r, h1, h2⟩ := perform_some h
    exact ⟨_, _, .run st (Same.refl _) (.inl hg) r h1, h2⟩
  · rename_i j want hg
    split at h
    · cases h
    · rename_i g hd
      split at h
      · rename_i b hb
        cases want with
        | true =>
          cases b with
          | true =>
            obtain ⟨r, h1, h2⟩ := perform_some (by simpa [ifB] using h)
            exact ⟨_, _, .run _ (fix_same hb) (.inr ⟨j, true, g, hg, hd, hb⟩) r h1, h2⟩
          | false => exact ⟨_, _, .skip _ (fix_same hb) j true g hg hd (.inl hb), by simpa [ifB] using h⟩
        | false =>
          cases b with
          | true => exact ⟨_, _, .skip _ (fix_same hb) j false g hg hd (.inl hb), by simpa [ifB] using h⟩
          | false =>
            obtain ⟨r, h1, h2⟩ := perform_some (by simpa [ifB] using h)
            exact ⟨_, _, .run _ (fix_same hb) (.inr ⟨j, false, g, hg, hd, hb⟩) r h1, h2⟩
      · rename_i hb
        exact ⟨_, _, .skip st (Same.refl _) j want g hg hd (.inr hb), h⟩
      · cases h

/-- Operations one behind another. -/
inductive Run (C : Ctx) (rec : Rec) (ops : Array Oper) : List Oper → Slots → Slots → List Foot → Prop
  | nil (st : Slots) : Run C rec ops [] st st []
  | cons (o : Oper) (r : List Oper) (st st1 st2 : Slots) (f : Foot) (fs : List Foot) (h : Step1 C rec ops o st st1 f) (hr : Run C rec ops r st1 st2 fs) : Run C rec ops (o :: r) st st2 (f :: fs)
theorem stepsK_some {α : Type} {C : Ctx} {rec : Rec} {ops : Array Oper} : ∀ {l : List Oper} {st : Slots} {fs : List Foot} {k : Slots → List Foot → Option α} {x : α}, stepsK C rec ops l st fs k = some x → ∃ st' gs, Run C rec ops l st st' gs ∧ k st' (fs ++ gs) = some x
  | [], st, fs, k, x, h => ⟨st, [], .nil st, by simpa [stepsK] using h⟩
  | o :: l, st, fs, k, x, h => by
    simp only [stepsK] at h
    obtain ⟨st1, f, h1, h2⟩ := stepK_some h
    obtain ⟨st2, gs, h3, h4⟩ := stepsK_some h2
    exact ⟨st2, f :: gs, .cons _ _ _ _ _ _ _ h1 h3, by simpa using h4⟩

/-! ### frames -/
structure GrowB (w w' : World) (B : Nat → Prop) : Prop where
  os : w'.os = w.os
  tape : w'.tape = w.tape
  output : w'.output = w.output
  size : w.heap.size ≤ w'.heap.size
  same : ∀ k, k < w.heap.size → ¬ B k → w'.heap[k]? = w.heap[k]?
theorem GrowB.refl (w : World) (B : Nat → Prop) : GrowB w w B := ⟨rfl, rfl, rfl, Nat.le_refl _, fun _ _ _ => rfl⟩
theorem GrowB.step {w0 w w' : World} {B : Nat → Prop} {blk : Blk} (h : GrowB w0 w B) (g : Grow w w' blk) (hb : ∀ t c k, blk t c = some k → B k ∨ w0.heap.size ≤ k) : GrowB w0 w' B :=
  ⟨g.os.trans h.os, g.tape.trans h.tape, g.output.trans h.output, Nat.le_trans h.size g.size, fun k hk hno => by
    rw [g.same k (Nat.lt_of_lt_of_le hk h.size) ?_, h.same k hk hno]
    rintro ⟨t, c, q⟩
    rcases hb t c k q with q | q
    · exact hno q
    · omega⟩

/-- A frame in the course of a call. -/
structure Fr (w0 : World) (B : Nat → Prop) (N : Nat) (Oc K : Nat → Prop) (t0 : Nat → Value) (w : World) (st : Slots) (act : Act) : Prop where
  ex : ∃ blk, SRel w Oc st (fun t => act.tmps.getD t Go.undef) blk ∧ ∀ t c k, blk t c = some k → B k ∨ w0.heap.size ≤ k
  defers : act.defers = []
  size : act.tmps.size = N
  grow : GrowB w0 w B
  kept : ∀ t, K t → act.tmps.getD t Go.undef = t0 t

theorem put_tm {act : Act} {d : Nat} {u : Value} (hd : d < act.tmps.size) : (fun t => (act.put (some d) u).tmps.getD t Go.undef) = updN (fun t => act.tmps.getD t Go.undef) d u := by
  funext t
  simp only [Act.put, updN]
  split
  · rename_i h; subst h; simp [hd]
  · rename_i h
    simp [Array.getElem?_setIfInBounds_ne (Ne.symm h)]

theorem Fr.same {w0 : World} {B : Nat → Prop} {N : Nat} {Oc K : Nat → Prop} {t0 : Nat → Value} {w : World} {st st' : Slots} {act : Act} (h : Fr w0 B N Oc K t0 w st act) (hs : Same st' st) : Fr w0 B N Oc K t0 w st' act := by
  obtain ⟨blk, h1, h2⟩ := h.ex
  exact ⟨⟨blk, h1.same hs, h2⟩, h.defers, h.size, h.grow, h.kept⟩
theorem Fr.weaken {w0 : World} {B : Nat → Prop} {N : Nat} {Oc K : Nat → Prop} {t0 : Nat → Value} {w : World} {st st' : Slots} {act : Act} (h : Fr w0 B N Oc K t0 w st act) (hd : ∀ t, st'.get t = st.get t ∨ st'.get t = .dead) : Fr w0 B N Oc K t0 w st' act := by
  obtain ⟨blk, h1, h2⟩ := h.ex
  obtain ⟨blk', g1, g2, _⟩ := h1.weaken hd
  exact ⟨⟨blk', g1, fun t c k q => h2 t c k (g2 _ _ _ q)⟩, h.defers, h.size, h.grow, h.kept⟩
/-- The operation's value comes into its slot. -/
theorem Fr.put {w0 : World} {B : Nat → Prop} {N : Nat} {Oc K : Nat → Prop} {t0 : Nat → Value} {w w' : World} {st : Slots} {act : Act} {o : Oper} {r : List Edit × SV} {u : Value} {blk blk' : Blk} {pb : Option Nat → Option Nat} (h : Fr w0 B N Oc K t0 w st act)
    (hb : ∀ t c k, blk t c = some k → B k ∨ w0.heap.size ≤ k) (hg : Grow w w' blk) (hp : Pend w' Oc (edits r.1 st) (fun t => act.tmps.getD t Go.undef) blk' r.2 u pb)
    (h1 : ∀ t c k, blk' t c = some k → blk.has k ∨ w.heap.size ≤ k) (h2 : ∀ c k, pb c = some k → blk.has k ∨ w.heap.size ≤ k) (hd : ∀ d, o.dst = some d → d < N ∧ ¬ K d) : Fr w0 B N Oc K t0 w' (done o st r) (act.put o.dst u) := by
  have hs : w0.heap.size ≤ w.heap.size := h.grow.size
  have hsub : ∀ k, (blk.has k ∨ w.heap.size ≤ k) → B k ∨ w0.heap.size ≤ k := by
    rintro k (⟨t, c, q⟩ | q)
    · exact hb t c k q
    · exact .inr (by omega)
  have hgrow := h.grow.step hg hb
  cases hdst : o.dst with
  | none =>
    refine ⟨⟨blk', ?_, fun t c k q => hsub k (h1 t c k q)⟩, h.defers, h.size, hgrow, h.kept⟩
    have : done o st r = edits r.1 st := by unfold done; rw [hdst]
    rw [this]
    exact hp.drop
  | some d =>
    obtain ⟨hdn, hdk⟩ := hd d hdst
    have hk := hp.put d
    rw [← put_tm (by rw [h.size]; exact hdn)] at hk
    refine ⟨⟨updN blk' d pb, ?_, fun t c k q => ?_⟩, h.defers, by simp [Act.put, h.size], hgrow, fun t ht => ?_⟩
    · have : done o st r = (edits r.1 st).put d r.2 := by unfold done; rw [hdst]
      rw [this]
      exact hk
    · by_cases ht : t = d
      · subst ht; rw [updN_same] at q; exact hsub k (h2 c k q)
      · rw [updN_ne _ _ ht] at q; exact hsub k (h1 t c k q)
    · have := congrFun (put_tm (act := act) (u := u) (by rw [h.size]; exact hdn)) t
      rw [this, updN_ne _ _ fun e => hdk (by rw [← e]; exact ht)]
      exact h.kept t ht

/-! ### one operation, on the machine -/
section
variable {C : Ctx} {rec : Rec} {w0 w : World} {B : Nat → Prop} {N : Nat} {Oc K : Nat → Prop} {t0 : Nat → Value} {st : Slots} {act : Act}

theorem callFunc_enter {P : Program} {g : FuncId} {fn : Func} {c : Code} (hf : P.funcs[g]? = some fn) (hb : fn.body = some c) (hn : (fn.name == "runtime.NumGoroutine") = false) (args : Array Value) : (callFunc g args).run P w = .ok (.enter g args) w := by
  have hn' : ¬ fn.name = "runtime.NumGoroutine" := by simpa using hn
  simp [callFunc, hf, hn', hb]

/-- No function of the program counts goroutines. -/
def namesOk (P : Program) : Bool := P.funcs.toList.all fun fn => !(fn.name == "runtime.NumGoroutine")
theorem namesOk_spec {P : Program} (h : namesOk P = true) {g : FuncId} {fn : Func} (hf : P.funcs[g]? = some fn) : (fn.name == "runtime.NumGoroutine") = false := by
  have := List.all_eq_true.1 h fn (by
    have := Array.mem_of_getElem? hf
    exact Array.mem_toList_iff.2 this)
  simpa using this

theorem callee_rep {blk : Blk} (h : SRel w Oc st (fun t => act.tmps.getD t Go.undef) blk) {fo : Operand} {args : Array Operand} {tys : Array TypeId} {g : FuncId} {as : List Arg} (hc : callee C ⟨.value fo, args, tys⟩ st = some (g, as)) :
    ∃ fs cs, act.eval fo = .func (.func g) fs cs ∧ (∃ fn c, C.P.funcs[g]? = some fn ∧ fn.body = some c) ∧ ArgsRep w (blk.off Oc) st (fun t => act.tmps.getD t Go.undef) as ((fs ++ args.map act.eval) ++ cs).toList := by
  unfold callee at hc
  dsimp only at hc
  split at hc
  · rename_i g' first cap rt hf
    split at hc
    · rename_i code as' hbody hfa
      simp only [Option.some.injEq, Prod.mk.injEq] at hc
      obtain ⟨rfl, rfl⟩ := hc
      have hrep := (fetch_rep h hf act (fun _ => rfl)).val rfl
      have pure_ : ∀ (vs : List PV) (us : Array Value) (uf : Nat → Value), us.size = vs.length → (∀ (j : Nat) (y : PV), vs[j]? = some y → us[j]? = some (uf j)) → (∀ (j : Nat) (y : PV), vs[j]? = some y → RepV w (blk.off Oc) y (uf j)) →
          ArgsRep w (blk.off Oc) st (fun t => act.tmps.getD t Go.undef) (vs.map fun v => ⟨.val v, none⟩) us.toList := by
        intro vs us uf hl h1 h2
        have : ∀ (vs : List PV) (us : List Value) (n : Nat), us.length = vs.length → (∀ (j : Nat) (y : PV), vs[j]? = some y → us[j]? = some (uf (n + j))) → (∀ (j : Nat) (y : PV), vs[j]? = some y → RepV w (blk.off Oc) y (uf (n + j))) →
            ArgsRep w (blk.off Oc) st (fun t => act.tmps.getD t Go.undef) (vs.map fun v => ⟨.val v, none⟩) us := by
          intro vs
          induction vs with
          | nil => intro us n hl _ _; cases us with | nil => exact .nil | cons => simp at hl
          | cons v vs ih =>
            intro us n hl g1 g2
            cases us with
            | nil => simp at hl
            | cons u us =>
              have e0 := g1 0 v rfl
              simp at e0
              subst e0
              refine .cons _ _ _ _ ⟨.flat _ _ _ (.val _ _ (g2 0 v rfl)), fun s o h' => (by cases h'), fun s hs => (by simp [SV.root] at hs)⟩ (ih us (n + 1) (by simpa using hl) (fun j y hj => ?_) (fun j y hj => ?_))
              · have := g1 (j + 1) y (by simpa using hj)
                rw [show n + 1 + j = n + (j + 1) by omega]
                simpa using this
              · rw [show n + 1 + j = n + (j + 1) by omega]
                exact g2 (j + 1) y (by simpa using hj)
        refine this vs us.toList 0 (by simpa using hl) (fun j y hj => ?_) (fun j y hj => ?_)
        · rw [Nat.zero_add]; simpa using h1 j y hj
        · rw [Nat.zero_add]; exact h2 j y hj
      generalize hev : act.eval fo = ev at hrep
      cases hrep with
      | fn _ _ _ fs cs uf uc hlf hlc h1 h2 h3 h4 =>
        refine ⟨fs, cs, rfl, ?_, ?_⟩
        · cases hfn : C.P.funcs[g']? with
          | none => rw [hfn] at hbody; cases hbody
          | some fn => rw [hfn] at hbody; exact ⟨fn, code, rfl, hbody⟩
        · have e : ((fs ++ args.map act.eval) ++ cs).toList = (fs.toList ++ args.toList.map act.eval) ++ cs.toList := by simp
          rw [e]
          exact ((pure_ first fs uf hlf h1 h2).append (fetchAll_rep h act (fun _ => rfl) _ _ _ hfa)).append (pure_ cap cs uc hlc h3 h4)
    · cases hc
  · cases hc

theorem perf_wp {Q : Exit → Act → World → Prop} {next : Act → World → Prop} {o : Oper} {r : List Edit × SV} (hN : namesOk C.P = true) (hOc : ∀ k, Oc k → k < w0.heap.size) (hrec : ∀ g os rr, rec g os = some rr → CallSpec C.P g os rr.1 rr.2)
    (h : Fr w0 B N Oc K t0 w st act) (hd : ∀ d, o.dst = some d → d < N ∧ ¬ K d) (hp : Perf C rec o st r) (hnext : ∀ u w', Fr w0 B N Oc K t0 w' (done o st r) (act.put o.dst u) → next (act.put o.dst u) w') : o.wp C.P act w next Q := by
  obtain ⟨blk, hS, hB⟩ := h.ex
  have hOc' : ∀ k, Oc k → k < w.heap.size := fun k q => Nat.lt_of_lt_of_le (hOc k q) h.grow.size
  cases hp with
  | plain _ hc =>
    obtain ⟨nx, u, w', blk', pb, e1, e2, e3, e4, e5, e6⟩ := (compute_sim hS hOc' (act := act) (fun _ => rfl) hc).ex
    have hk := hnext u w' (h.put hB e3 e4 e5 e6 hd)
    unfold Oper.wp
    rw [e1]
    rcases e2 with rfl | ⟨rfl, rfl⟩
    · rw [Oper.upon_value]; exact hk
    · rw [Oper.upon_skip]; exact hk
  | calls fo args tys g as os rr ho h1 h2 h3 h4 h5 =>
    obtain ⟨fs, cs, hev, ⟨fn, code, hfn, hbody⟩, hargs⟩ := callee_rep hS h1
    obtain ⟨OcC, ab, k1, k2, k3, k4⟩ := call_after hS hOc' hargs h3 h2 h5
    have hcall := hrec g os rr h4 w OcC _ ab k1 k2 k3
    unfold Oper.wp
    have hrun : (execOp act.eval o).run C.P w = .ok (.enter g ((fs ++ args.map act.eval) ++ cs)) w := by
      have := callFunc_enter (w := w) hfn hbody (namesOk_spec hN hfn) ((fs ++ args.map act.eval) ++ cs)
      simp only [execOp, ho, resolve, hev, Deferred.ofValue, invoke, Sem.run_bind, Sem.run_pure, Result.andThen_ok]
      exact this
    rw [hrun, Oper.upon_enter]
    rw [show (((fs ++ args.map act.eval) ++ cs).toList).toArray = (fs ++ args.map act.eval) ++ cs by simp] at hcall
    refine hcall.mono fun e w' he => ?_
    obtain ⟨v, rfl, hg, hco⟩ := he
    obtain ⟨blk', pb, m1, m2, m3, m4⟩ := (k4 w' v hg hco).ex
    exact hnext v w' (h.put hB m1 m2 m3 m4 hd)

theorem yielded_spec {blk : Blk} {ops : Array Oper} (h : SRel w Oc st (fun t => act.tmps.getD t Go.undef) blk) {j g : Nat} (hd : (ops[j]?).bind (·.dst) = some g) :
    (∀ b, st.get g = .val (.bool b) → yielded ops act.tmps j = some b) ∧ (st.get g = .val .undef → yielded ops act.tmps j = none) := by
  have hrep := h.rep g
  refine ⟨fun b hb => ?_, fun hb => ?_⟩
  · rw [hb] at hrep
    have hv := ((ORep.flat_inv hrep).1.val_inv).1.bool_inv
    unfold yielded
    rw [hd]
    have : act.tmps[g]? = some (.bool b) := by
      cases hg : act.tmps[g]? with
      | none =>
        have : act.tmps.getD g Go.undef = Go.undef := by simp [hg]
        rw [this] at hv
        simp [Go.undef] at hv
      | some v => simpa [hg] using hv
    simp [this]
  · rw [hb] at hrep
    have hv := ((ORep.flat_inv hrep).1.val_inv).1
    unfold yielded
    rw [hd]
    have hv' : act.tmps.getD g Go.undef = Go.undef := by
      generalize act.tmps.getD g Go.undef = z at hv
      cases hv
      rfl
    cases hg : act.tmps[g]? with
    | none => simp [hg]
    | some v =>
      have : v = Go.undef := by simpa [hg] using hv'
      subst this
      simp [hg, Go.undef]

/-- An operation in its region. -/
theorem step_wp {ops : Array Oper} {Q : Exit → Act → World → Prop} {next : Act → World → Prop} {o : Oper} {st' : Slots} {f : Foot} (hN : namesOk C.P = true) (hOc : ∀ k, Oc k → k < w0.heap.size) (hrec : ∀ g os rr, rec g os = some rr → CallSpec C.P g os rr.1 rr.2)
    (h : Fr w0 B N Oc K t0 w st act) (hd : ∀ d, o.dst = some d → d < N ∧ ¬ K d) (hp : Step1 C rec ops o st st' f) (hnext : ∀ a w', Fr w0 B N Oc K t0 w' st' a → next a w') :
    if Region.wanted o (yielded ops act.tmps) then o.wp C.P act w next Q ∨ (o.asks C.P act w ∧ LetsOut Q) else next (act.put o.dst undef) w := by
  obtain ⟨blk, hS, hB⟩ := h.ex
  cases hp with
  | run st0 hs hg r hp =>
    have hw : Region.wanted o (yielded ops act.tmps) = true := by
      unfold Region.wanted
      rcases hg with hg | ⟨j, want, g, hg, hdj, hv⟩
      · rw [hg]
      · rw [hg]
        simp [(yielded_spec hS hdj).1 want hv]
    rw [if_pos hw]
    exact .inl (perf_wp hN hOc hrec (h.same hs) hd hp fun u w' hf => hnext _ w' hf)
  | skip st0 hs j want g h1 h2 h3 =>
    have hw : Region.wanted o (yielded ops act.tmps) = false := by
      unfold Region.wanted
      rw [h1]
      rcases h3 with h3 | h3
      · simp [(yielded_spec hS h2).1 _ h3]
      · simp [(yielded_spec hS h2).2 h3]
    rw [hw]
    simp only [Bool.false_eq_true, if_false]
    refine hnext _ w ?_
    have hq : SRel w Oc st0 (fun t => act.tmps.getD t Go.undef) blk := hS.same hs
    have := (h.same hs).put (o := o) (r := ([], .val .undef)) (u := undef) (blk := blk) (w' := w) hB (Grow.refl _ _) (quiet_pend hq (.flat _ _ _ (.val _ _ .undef))) (subHas fun _ _ _ q => q) (fun c k q => by cases q) hd
    have e : done o st0 ([], .val .undef) = skipped o st0 := by
      unfold done skipped
      cases o.dst <;> rfl
    rw [e] at this
    exact this
end
end Go.Ev

namespace Go.Ev

/-! ### an operation hangs on what it reads -/
section
variable {C : Ctx} {rec : Rec} {ops : Array Oper} {st st' : Slots}

theorem reads_cons (s : Nat) (r : List Operand) : readsOf st (.tmp s :: r) = s :: ((st.get s).rootL ++ readsOf st r) := rfl
theorem reads_mem : ∀ {l : List Operand} {s : Nat}, .tmp s ∈ l → s ∈ readsOf st l ∧ ∀ r, (st.get s).root = some r → r ∈ readsOf st l
  | [], _, h => by cases h
  | x :: l, s, h => by
    rcases List.mem_cons.1 h with rfl | h
    · refine ⟨by simp [readsOf], fun r hr => ?_⟩
      simp [readsOf, SV.rootL, hr]
    · obtain ⟨h1, h2⟩ := reads_mem h
      cases x with
      | tmp t => exact ⟨by simp [readsOf, h1], fun r hr => by simp [readsOf, h2 r hr]⟩
      | _ => exact ⟨by simpa [readsOf] using h1, fun r hr => by simpa [readsOf] using h2 r hr⟩

theorem rooted_congr {v : SV} {r : Nat} (h : st'.get r = st.get r) : rooted st' v r = rooted st v r := by
  unfold rooted; rw [h]
theorem fetch_congr {P : Program} {t : TypeId} {x : Operand} (h : ∀ s, x = .tmp s → st'.get s = st.get s ∧ ∀ r, (st.get s).root = some r → st'.get r = st.get r) : fetch P st' t x = fetch P st t x := by
  cases x with
  | tmp s =>
    obtain ⟨h1, h2⟩ := h s rfl
    simp only [fetch, h1]
    cases hv : st.get s with
    | ref r c => exact rooted_congr (h2 r (by rw [hv]; rfl))
    | adr r c => exact rooted_congr (h2 r (by rw [hv]; rfl))
    | adrx r c => exact rooted_congr (h2 r (by rw [hv]; rfl))
    | adre r c i off => exact rooted_congr (h2 r (by rw [hv]; rfl))
    | view r c l u => exact rooted_congr (h2 r (by rw [hv]; rfl))
    | rng r c l => exact rooted_congr (h2 r (by rw [hv]; rfl))
    | home o =>
      cases o with
      | flat f => cases f <;> rfl
      | cont k cs => rfl
      | tn => rfl
    | dead => rfl
    | fadr sh v => rfl
  | _ => rfl

/-- Two lists of slots say the same to these operands. -/
def Agree (st st' : Slots) (l : List Operand) : Prop := ∀ s, .tmp s ∈ l → st'.get s = st.get s ∧ ∀ r, (st.get s).root = some r → st'.get r = st.get r
theorem Agree.of {l : List Operand} (h : ∀ s ∈ readsOf st l, st'.get s = st.get s) : Agree st st' l := by
  intro s hs
  obtain ⟨h1, h2⟩ := reads_mem (st := st) hs
  exact ⟨h s h1, fun r hr => h r (h2 r hr)⟩
theorem Agree.fetch {P : Program} {t : TypeId} {x : Operand} {l : List Operand} (h : Agree st st' l) (hx : x ∈ l) : fetch P st' t x = fetch P st t x :=
  fetch_congr fun s hs => h s (hs ▸ hx)
theorem Agree.all {P : Program} {l : List Operand} (h : Agree st st' l) : ∀ (xs : List Operand) (ts : List TypeId), (∀ x ∈ xs, x ∈ l) → fetchAll P st' ts xs = fetchAll P st ts xs
  | [], _, _ => rfl
  | x :: xs, ts, hx => by
    simp only [fetchAll]
    rw [h.fetch (hx x (by simp)), h.all xs ts.tail fun y hy => hx y (by simp [hy])]
theorem Agree.parts {P : Program} {l : List Operand} (h : Agree st st' l) (ty : Nat → TypeId) : ∀ (xs : List (Nat × Operand)), (∀ x ∈ xs, x.2 ∈ l) → fetchParts P st' ty xs = fetchParts P st ty xs
  | [], _ => rfl
  | (i, x) :: xs, hx => by
    simp only [fetchParts]
    rw [h.fetch (hx (i, x) (by simp)), h.parts ty xs fun y hy => hx y (by simp [hy])]
theorem Agree.opt {P : Program} {l : List Operand} (h : Agree st st' l) (x : Option Operand) (hx : ∀ y, x = some y → y ∈ l) : optInt P st' x = optInt P st x := by
  cases x with
  | none => rfl
  | some y => simp only [optInt]; rw [h.fetch (hx y rfl)]

theorem compute_congr {P : Program} {o : Oper} (h : Agree st st' o.op.operands.toList) : compute P o st' = compute P o st := by
  obtain ⟨dst, op, type, pos, after, guard⟩ := o
  dsimp only at h
  have F : ∀ {t : TypeId} {x : Operand}, x ∈ op.operands.toList → fetch P st' t x = fetch P st t x := fun hx => h.fetch hx
  cases op <;> simp only [compute] <;> simp only [Op.operands] at F h
  case move => rw [F (by simp)]
  case assign => rw [F (by simp)]
  case pick => rw [F (by simp), F (by simp), F (by simp)]
  case box => rw [F (by simp)]
  case build t ps => rw [h.parts _ ps.toList fun x hx => by simp; exact ⟨x.1, Array.mem_toList_iff.1 hx⟩]
  case buildSlice t n ps => rw [h.parts _ ps.toList fun x hx => by simp; exact ⟨x.1, Array.mem_toList_iff.1 hx⟩]
  case load => rw [F (by simp)]
  case store => rw [F (by simp), F (by simp)]
  case nilCheck => rw [F (by simp)]
  case binOp => rw [F (by simp), F (by simp)]
  case unOp => rw [F (by simp)]
  case convert => rw [F (by simp)]
  case makeFunc f fs cs => rw [h.all fs.toList _ fun x hx => by simp; exact .inl (Array.mem_toList_iff.1 hx), h.all cs.toList _ fun x hx => by simp; exact .inr (Array.mem_toList_iff.1 hx)]
  case makeSlice => rw [F (by simp), F (by simp)]
  case slice t x lo hi mx => rw [F (by simp), h.opt lo (fun y hy => by subst hy; simp), h.opt hi (fun y hy => by subst hy; simp), h.opt mx (fun y hy => by subst hy; simp)]
  case fieldAddr => rw [F (by simp)]
  case field => rw [F (by simp)]
  case indexAddr => rw [F (by simp), F (by simp)]
  case index => rw [F (by simp), F (by simp)]
  case extract => rw [F (by simp)]
  case call c =>
    obtain ⟨callee, args, tys⟩ := c
    have G : ∀ {t : TypeId} {x : Operand}, x ∈ args.toList → fetch P st' t x = fetch P st t x := fun hx => F (by simp [Call.operands]; exact .inr (Array.mem_toList_iff.1 hx))
    dsimp only
    split
    · split
      · rename_i h1 h2; rw [G (by rw [h2]; simp)]
      · rfl
    · split
      · rename_i h1 h2
        rw [G (by rw [h2]; simp), G (by rw [h2]; simp)]
      · rfl
    · split
      · rename_i h1 h2
        rw [G (by rw [h2]; simp), G (by rw [h2]; simp)]
      · rfl
    · split
      · rename_i h2; rw [G (by rw [h2]; simp), G (by rw [h2]; simp)]
      · rfl
    · split
      · rename_i h2; rw [G (by rw [h2]; simp), G (by rw [h2]; simp)]
      · rfl
    · rfl

theorem callee_congr {c : Call} (h : Agree st st' c.operands.toList) : callee C c st' = callee C c st := by
  unfold callee
  split
  · rename_i f hc
    rw [h.fetch (x := f) (by simp [Call.operands, hc]), h.all c.args.toList _ fun x hx => by simp [Call.operands]; exact .inr (Array.mem_toList_iff.1 hx)]
  · rfl

theorem perf_congr {o : Oper} {r : List Edit × SV} (h : Agree st st' o.op.operands.toList) (hp : Perf C rec o st r) : Perf C rec o st' r := by
  cases hp with
  | calls fo args tys g as os rr ho h1 h2 h3 h4 h5 =>
    refine .calls fo args tys g as os rr ho ?_ h2 h3 h4 h5
    rw [callee_congr (c := ⟨.value fo, args, tys⟩) (by rw [ho] at h; exact h)]
    exact h1
  | plain hn hc => exact .plain hn (by rw [compute_congr h]; exact hc)

/-! ### what an operation does -/
def effect (o : Oper) (r : List Edit × SV) : List Edit := r.1 ++ (match o.dst with
  | some d => [⟨d, r.2, .all⟩]
  | none => [])
theorem done_effect (o : Oper) (st : Slots) (r : List Edit × SV) : done o st r = edits (effect o r) st := by
  unfold done effect
  rw [edits_append]
  cases o.dst <;> rfl
theorem skipped_effect (o : Oper) (st : Slots) : skipped o st = edits (effect o ([], .val .undef)) st := by
  unfold skipped effect
  cases o.dst <;> rfl

def Live (st : Slots) (f : Foot) : Prop := ∀ s ∈ f.rd, st.get s ≠ .dead ∧ ∀ r, (st.get s).root = some r → r ∈ f.rd
theorem liveAll_spec {rd : List Nat} : ∀ {l : List Nat}, liveAll st rd l = true → ∀ s ∈ l, st.get s ≠ .dead ∧ ∀ r, (st.get s).root = some r → r ∈ rd
  | [], _, s, hs => by cases hs
  | x :: l, h, s, hs => by
    simp only [liveAll, Bool.and_eq_true] at h
    rcases List.mem_cons.1 hs with rfl | hs
    · have h1 := h.1
      split at h1
      · cases h1
      · rename_i hne
        refine ⟨fun e => hne e, fun r hr => ?_⟩
        simp only [SV.rootL, hr, List.all_cons, List.all_nil, Bool.and_true] at h1
        exact (memN_iff _ _).1 h1
    · exact liveAll_spec h.2 s hs

structure Local (C : Ctx) (rec : Rec) (ops : Array Oper) (o : Oper) (st : Slots) (f : Foot) (es : List Edit) : Prop where
  wr : ∀ e ∈ es, e.s ∈ f.wr
  root : ∀ e ∈ es, ∀ r, e.v.root = some r → r ∈ f.rd
  again : ∀ st2, (∀ s ∈ f.rd, st2.get s = st.get s) → Step1 C rec ops o st2 (edits es st2) f
  live : Live st f

theorem guard_mem {o : Oper} {j g : Nat} {want : Bool} (h1 : o.guard = some (j, want)) (h2 : (ops[j]?).bind (·.dst) = some g) : g ∈ guardReads ops o := by
  simp [guardReads, h1, slotOf, h2]

theorem step_local {o : Oper} {f : Foot} (h : Step1 C rec ops o st st' f) (hl : f.live = true) : ∃ es, Same st' (edits es st) ∧ Local C rec ops o st f es := by
  cases h with
  | run st0 hs hg r hp =>
    have hsame : ∀ t, st0.get t = st.get t := hs
    have hlive : Live st (footOf ops o st0 r.1 r.2) := by
      intro s hs'
      have := liveAll_spec hl s hs'
      rw [hsame s] at this
      exact this
    refine ⟨effect o r, by rw [done_effect]; exact edits_congr hs _, ⟨fun e he => ?_, fun e he q hq => ?_, fun st2 h2 => ?_, hlive⟩⟩
    · unfold effect at he
      rcases List.mem_append.1 he with he | he
      · simp only [footOf, List.mem_append, List.mem_map]
        exact .inr ⟨e, he, rfl⟩
      · split at he
        · rename_i d hd
          simp at he
          subst he
          simp [footOf, hd]
        · cases he
    · unfold effect at he
      show q ∈ footRd ops o st0 r.1 r.2
      unfold footRd
      rcases List.mem_append.1 he with he | he
      · refine List.mem_append_right _ (List.mem_append_right _ (List.mem_append_left _ (List.mem_flatMap.2 ⟨e, he, ?_⟩)))
        simp [SV.rootL, hq]
      · split at he
        · simp at he
          subst he
          refine List.mem_append_right _ (List.mem_append_right _ (List.mem_append_right _ ?_))
          simp [SV.rootL, hq]
        · cases he
    · have hag : ∀ s ∈ footRd ops o st0 r.1 r.2, st2.get s = st0.get s := fun s hs' => by rw [h2 s hs', hsame s]
      have hA : Agree st0 st2 o.op.operands.toList := Agree.of fun s hs' => hag s (List.mem_append_right _ (List.mem_append_left _ hs'))
      have hreads : ∀ l : List Operand, (∀ s ∈ readsOf st0 l, st2.get s = st0.get s) → readsOf st2 l = readsOf st0 l := by
        intro l
        induction l with
        | nil => exact fun _ => rfl
        | cons x l ih =>
          intro hl'
          cases x with
          | tmp s =>
            rw [reads_cons, reads_cons, hl' s (by simp [readsOf]), ih fun t ht => hl' t (by simp [readsOf, ht])]
          | _ => exact ih hl'
      have hrd : footRd ops o st2 r.1 r.2 = footRd ops o st0 r.1 r.2 := by
        unfold footRd
        rw [hreads _ fun s hs' => hag s (List.mem_append_right _ (List.mem_append_left _ hs'))]
      have hlv : ∀ l : List Nat, (∀ s ∈ l, st2.get s = st0.get s) → ∀ rd, liveAll st2 rd l = liveAll st0 rd l := by
        intro l
        induction l with
        | nil => exact fun _ _ => rfl
        | cons x l ih =>
          intro hl' rd
          simp only [liveAll]
          rw [hl' x (by simp), ih (fun s hs' => hl' s (by simp [hs']))]
      have hfoot : footOf ops o st2 r.1 r.2 = footOf ops o st0 r.1 r.2 := by
        unfold footOf
        rw [hrd, hlv _ hag]
      rw [← hfoot, ← done_effect]
      refine .run st2 (Same.refl _) ?_ r (perf_congr hA hp)
      rcases hg with hg | ⟨j, want, g, g1, g2, g3⟩
      · exact .inl hg
      · refine .inr ⟨j, want, g, g1, g2, ?_⟩
        rw [hag g (List.mem_append_left _ (guard_mem g1 g2)), hsame g]
        exact g3
  | skip st0 hs j want g h1 h2 h3 =>
    refine ⟨effect o ([], .val .undef), by rw [skipped_effect]; exact edits_congr hs _, ⟨fun e he => ?_, fun e he q hq => ?_, fun st2 h4 => ?_, ?_⟩⟩
    · unfold effect at he
      simp only [List.nil_append] at he
      split at he
      · rename_i d hd
        simp at he
        subst he
        simp [skipFoot, hd]
      · cases he
    · unfold effect at he
      simp only [List.nil_append] at he
      split at he
      · simp at he
        subst he
        simp [SV.root] at hq
      · cases he
    · rw [← skipped_effect]
      refine .skip st2 (Same.refl _) j want g h1 h2 ?_
      rw [h4 g (guard_mem h1 h2)]
      exact h3
    · intro s hs'
      have : s = g := by
        have : s ∈ guardReads ops o := hs'
        simpa [guardReads, h1, slotOf, h2] using this
      subst this
      rcases h3 with h3 | h3 <;> rw [h3] <;> exact ⟨by simp, fun r hr => by simp [SV.root] at hr⟩
end

/-! ### two operations that touch other slots -/
theorem meets_spec {l m : List Nat} (h : meets l m = false) : ∀ x ∈ l, x ∉ m := by
  intro x hx hm
  have : meets l m = true := List.any_eq_true.2 ⟨x, hx, (memN_iff _ _).2 hm⟩
  rw [h] at this; cases this
theorem apart_foot {a b : Foot} (h : a.apart b = true) : (∀ x ∈ a.wr, x ∉ b.rd) ∧ (∀ x ∈ a.wr, x ∉ b.wr) ∧ (∀ x ∈ a.rd, x ∉ b.wr) := by
  unfold Foot.apart at h
  have h' : meets a.wr b.rd = false ∧ meets a.wr b.wr = false ∧ meets a.rd b.wr = false := by
    revert h
    cases meets a.wr b.rd <;> cases meets a.wr b.wr <;> cases meets a.rd b.wr <;> simp
  exact ⟨meets_spec h'.1, meets_spec h'.2.1, meets_spec h'.2.2⟩

theorem get_edits_or : ∀ {es : List Edit} {st : Slots} {t : Nat}, (∀ e ∈ es, e.s ≠ t) → (edits es st).get t = st.get t ∨ ((edits es st).get t = .dead ∧ ∃ e ∈ es, (st.get t).root = some e.s)
  | [], _, _, _ => .inl rfl
  | e :: es, st, t, h => by
    have h1 : (e.on st).get t = e.cut.one e.s (st.get t) := by rw [get_e, if_neg fun x => h e (by simp) x.symm]
    show (edits es (e.on st)).get t = _ ∨ (edits es (e.on st)).get t = _ ∧ _
    by_cases hr : (st.get t).root = some e.s
    · rcases e.cut.one_or e.s (st.get t) with h2 | h2
      · rcases get_edits_or (es := es) (st := e.on st) (fun f hf => h f (by simp [hf])) with h3 | ⟨h3, f, hf, h4⟩
        · left; rw [h3, h1, h2]
        · right; exact ⟨h3, e, by simp, hr⟩
      · right
        refine ⟨?_, e, by simp, hr⟩
        rw [get_edits_far (fun f hf => h f (by simp [hf])) (by rw [h1, h2]; rfl), h1, h2]
    · have h2 : (e.on st).get t = st.get t := by rw [h1, Cut.one_far _ _ hr]
      rcases get_edits_or (es := es) (st := e.on st) (fun f hf => h f (by simp [hf])) with h3 | ⟨h3, f, hf, h4⟩
      · left; rw [h3, h2]
      · right; exact ⟨h3, f, by simp [hf], by rw [← h2]; exact h4⟩

section
variable {C : Ctx} {rec : Rec} {ops : Array Oper}

structure Item where
  i : Nat
  o : Oper
  f : Foot
  es : List Edit

theorem Local.congr {o : Oper} {st st' : Slots} {f : Foot} {es : List Edit} (h : Local C rec ops o st f es) (hs : ∀ s ∈ f.rd, st'.get s = st.get s) : Local C rec ops o st' f es :=
  ⟨h.wr, h.root, fun st2 h2 => h.again st2 fun s hs' => (h2 s hs').trans (hs s hs'), fun s hs' => by rw [hs s hs']; exact h.live s hs'⟩

theorem swap {x y : Item} {st : Slots} (hx : Local C rec ops x.o st x.f x.es) (hy : Local C rec ops y.o (edits x.es st) y.f y.es) (ha : x.f.apart y.f = true) :
    Local C rec ops y.o st y.f y.es ∧ Local C rec ops x.o (edits y.es st) x.f x.es ∧ Same (edits y.es (edits x.es st)) (edits x.es (edits y.es st)) := by
  obtain ⟨a1, a2, a3⟩ := apart_foot ha
  have hA : ∀ s ∈ y.f.rd, (edits x.es st).get s = st.get s := by
    intro s hs
    rcases get_edits_or (es := x.es) (st := st) (t := s) (fun e he e0 => a1 _ (hx.wr e he) (e0 ▸ hs)) with h | ⟨h, _⟩
    · exact h
    · exact absurd h (hy.live s hs).1
  have hB : ∀ s ∈ x.f.rd, (edits y.es st).get s = st.get s := by
    intro s hs
    rcases get_edits_or (es := y.es) (st := st) (t := s) (fun e he e0 => a3 _ hs (e0 ▸ hy.wr e he)) with h | ⟨_, e, he, hr⟩
    · exact h
    · exact absurd (hy.wr e he) (a3 _ ((hx.live s hs).2 _ hr))
  refine ⟨hy.congr fun s hs => (hA s hs).symm, hx.congr hB, edits_comm y.es x.es st fun e he g hg => ⟨fun e0 => a2 _ (hx.wr g hg) (e0 ▸ hy.wr e he), fun hr => a1 _ (hx.wr g hg) (hy.root e he _ hr), fun hr => a3 _ (hx.root g hg _ hr) (hy.wr e he)⟩⟩

inductive LRun (C : Ctx) (rec : Rec) (ops : Array Oper) : List Item → Slots → Slots → Prop
  | nil (st st' : Slots) (h : Same st st') : LRun C rec ops [] st st'
  | cons (x : Item) (l : List Item) (st st' : Slots) (ho : ops[x.i]? = some x.o) (h : Local C rec ops x.o st x.f x.es) (hr : LRun C rec ops l (edits x.es st) st') : LRun C rec ops (x :: l) st st'

theorem LRun.congr : ∀ {l : List Item} {a b c : Slots}, LRun C rec ops l a c → Same a b → LRun C rec ops l b c
  | [], _, _, _, .nil _ _ h, hs => .nil _ _ (hs.symm.trans h)
  | _ :: _, _, _, _, .cons x l _ _ ho h hr, hs => .cons x l _ _ ho (h.congr fun s _ => (hs s).symm) (hr.congr (edits_congr hs _))

theorem LRun.front : ∀ {pre : List Item} {x : Item} {post : List Item} {st st' : Slots}, LRun C rec ops (pre ++ x :: post) st st' → (∀ y ∈ pre, y.f.apart x.f = true) → LRun C rec ops (x :: (pre ++ post)) st st'
  | [], _, _, _, _, h, _ => h
  | y :: pre, x, post, st, st', h, ha => by
    cases h with
    | cons _ _ _ _ ho hy hr =>
      have h1 := hr.front (fun z hz => ha z (by simp [hz]))
      cases h1 with
      | cons _ _ _ _ ho2 hx hr2 =>
        obtain ⟨g1, g2, g3⟩ := swap hy hx (ha y (by simp))
        exact .cons x _ _ _ ho2 g1 (.cons y _ _ _ ho g2 (hr2.congr g3))

theorem run_items : ∀ {l : List Oper} {n : Nat} {st st' : Slots} {fs : List Foot}, Run C rec ops l st st' fs → (∀ j, l[j]? = ops[n + j]?) → (∀ f ∈ fs, f.live = true) →
    ∃ items : List Item, LRun C rec ops items st st' ∧ items.map (·.i) = List.range' n l.length ∧ items.map (·.f) = fs
  | [], n, _, _, _, .nil _, _, _ => ⟨[], .nil _ _ (Same.refl _), rfl, rfl⟩
  | o :: l, n, _, _, _, .cons _ _ st st1 st2 f fs h hr, hi, hl => by
    obtain ⟨es, h1, h2⟩ := step_local h (hl f (by simp))
    obtain ⟨items, g1, g2, g3⟩ := run_items (n := n + 1) hr (fun j => by have := hi (j + 1); simpa [Nat.add_assoc, Nat.add_comm 1 j] using this) (fun g hg => hl g (by simp [hg]))
    have ho : ops[n]? = some o := by simpa using (hi 0).symm
    exact ⟨⟨n, o, f, es⟩ :: items, .cons _ _ _ _ ho h2 (g1.congr h1), by simp [g2, List.range'_succ], by simp [g3]⟩

/-! ### which stand ahead -/
theorem masks_prefix : ∀ (l : List Oper) (acc : List Nat), (masks l acc).take acc.length = acc ∧ (masks l acc).length = acc.length + l.length
  | [], acc => ⟨by simp [masks], by simp [masks]⟩
  | o :: l, acc => by
    obtain ⟨h1, h2⟩ := masks_prefix l (acc ++ [maskOf acc o])
    refine ⟨?_, by simp only [masks, h2, List.length_append, List.length_cons, List.length_nil]; omega⟩
    simp only [masks]
    have := congrArg (List.take acc.length) h1
    simpa [List.take_take] using this
theorem masks_get : ∀ (l : List Oper) (acc : List Nat) (j : Nat) (o : Oper), l[j]? = some o → (masks l acc).getD (acc.length + j) 0 = maskOf ((masks l acc).take (acc.length + j)) o
  | [], _, _, _, h => by simp at h
  | p :: l, acc, 0, o, h => by
    simp at h
    subst h
    obtain ⟨h1, h2⟩ := masks_prefix l (acc ++ [maskOf acc p])
    simp only [masks, Nat.add_zero]
    have e1 : (masks l (acc ++ [maskOf acc p])).take acc.length = acc := by
      have := congrArg (List.take acc.length) h1
      simpa [List.take_take] using this
    rw [e1]
    have hlt : acc.length < (masks l (acc ++ [maskOf acc p])).length := by rw [h2]; simp; omega
    have e2 : (masks l (acc ++ [maskOf acc p]))[acc.length]? = some (maskOf acc p) := by
      have := congrArg (fun z => z[acc.length]?) h1
      simpa [List.getElem?_take] using this
    simp [List.getD, e2]
  | p :: l, acc, j + 1, o, h => by
    have := masks_get l (acc ++ [maskOf acc p]) j o (by simpa using h)
    simp only [masks]
    simp only [List.length_append, List.length_cons, List.length_nil] at this
    rw [show acc.length + (j + 1) = acc.length + (0 + 1) + j by omega]
    exact this

theorem maskOf_bit {acc : List Nat} {o : Oper} {i : Nat} (h : Nat.testBit (maskOf acc o) i = true) : ∃ e ∈ o.after, Region.binds .any e = true ∧ (i = e.on ∨ Nat.testBit (acc.getD e.on 0) i = true) := by
  have key : ∀ (l : List Edge) (s : Nat), Nat.testBit (l.foldl (fun s e => match Region.binds .any e with
      | true => Nat.lor s (Nat.lor (Nat.shiftLeft 1 e.on) (acc.getD e.on 0))
      | false => s) s) i = true → Nat.testBit s i = true ∨ ∃ e ∈ l, Region.binds .any e = true ∧ (i = e.on ∨ Nat.testBit (acc.getD e.on 0) i = true) := by
    intro l
    induction l with
    | nil => intro s h; exact .inl h
    | cons e l ih =>
      intro s h
      simp only [List.foldl_cons] at h
      rcases ih _ h with h1 | ⟨e', h1, h2⟩
      · cases hb : Region.binds .any e with
        | false => rw [hb] at h1; exact .inl h1
        | true =>
          rw [hb] at h1
          dsimp only at h1
          have e1 : Nat.lor s (Nat.lor (Nat.shiftLeft 1 e.on) (acc.getD e.on 0)) = s ||| (1 <<< e.on ||| acc.getD e.on 0) := rfl
          rw [e1, Nat.testBit_or, Nat.testBit_or, Bool.or_eq_true, Bool.or_eq_true] at h1
          rcases h1 with h1 | h1 | h1
          · exact .inl h1
          · right
            refine ⟨e, by simp, hb, .inl ?_⟩
            rw [Nat.one_shiftLeft, Nat.testBit_two_pow] at h1
            exact (of_decide_eq_true h1).symm
          · right; exact ⟨e, by simp, hb, .inr h1⟩
      · exact .inr ⟨e', by simp [h1], h2⟩
  rcases key o.after.toList 0 (by unfold maskOf at h; exact h) with h | ⟨e, he, h⟩
  · simp at h
  · exact ⟨e, Array.mem_toList_iff.1 he, h⟩

/-- Bits of a mask are of operations that stand ahead. -/
theorem mask_listed {listed : Array Bool} (hcl : ∀ k, listed.getD k false = true → ∀ i, Nat.testBit ((masks ops.toList []).getD k 0) i = true → listed.getD i false = true) {j : Nat} (hj : j ∈ Region.ready .any ops listed) (i : Nat)
    (hb : Nat.testBit ((masks ops.toList []).getD j 0) i = true) : listed.getD i false = true := by
  obtain ⟨_, o, ho, hall⟩ := mem_ready.1 hj
  have hm := masks_get ops.toList [] j o (by simpa using ho)
  simp only [List.length_nil, Nat.zero_add] at hm
  rw [hm] at hb
  obtain ⟨e, he, hbd, hi⟩ := maskOf_bit hb
  have hel := hall e he hbd
  rcases hi with rfl | hi
  · exact hel
  · refine hcl e.on hel i ?_
    by_cases hlt : e.on < j
    · have : ((masks ops.toList []).take j).getD e.on 0 = (masks ops.toList []).getD e.on 0 := by
        simp [List.getD, List.getElem?_take, hlt]
      rw [this] at hi; exact hi
    · have : ((masks ops.toList []).take j).getD e.on 0 = 0 := by
        simp [List.getD, List.getElem?_take, hlt]
      rw [this] at hi; simp at hi

theorem pairsOk_spec {ms : List Nat} {j : Nat} {f : Foot} : ∀ {l : List Foot} {n : Nat}, pairsOk ms j f n l = true → ∀ (q : Nat) (g : Foot), l[q]? = some g → Nat.testBit (ms.getD j 0) (n + q) = true ∨ g.apart f = true
  | [], _, _, q, g, h => by simp at h
  | x :: l, n, h, q, g, hq => by
    simp only [pairsOk, Bool.and_eq_true, Bool.or_eq_true] at h
    cases q with
    | zero => simp at hq; subst hq; simpa using h.1
    | succ q =>
      have := pairsOk_spec h.2 q g (by simpa using hq)
      rw [show n + (q + 1) = n + 1 + q by omega]; exact this
theorem allPairs_spec {ms : List Nat} : ∀ {l done : List Foot} {j : Nat}, done.length = j → allPairs ms j done l = true → ∀ (p q : Nat) (f g : Foot), p < q → j ≤ q → (done ++ l)[p]? = some g → (done ++ l)[q]? = some f → Nat.testBit (ms.getD q 0) p = true ∨ g.apart f = true
  | [], done, j, hl, _, p, q, f, g, _, hq, _, hf => by
    have := (List.getElem?_eq_some_iff.1 hf).1
    simp at this
    omega
  | x :: l, done, j, hl, h, p, q, f, g, hpq, hq, hg, hf => by
    simp only [allPairs, Bool.and_eq_true] at h
    by_cases hqj : q = j
    · subst hqj
      have e1 : (done ++ x :: l)[q]? = some x := by rw [List.getElem?_append_right (by omega)]; simp [hl]
      rw [e1] at hf
      cases hf
      have e2 : done[p]? = some g := by rw [List.getElem?_append_left (by omega)] at hg; exact hg
      have := pairsOk_spec h.1 p g e2
      simpa using this
    · have := allPairs_spec (done := done ++ [x]) (j := j + 1) (by simp [hl]) h.2 p q f g hpq (by omega) (by simpa using hg) (by simpa using hf)
      exact this
theorem edgesBack_spec : ∀ {l : List Oper} {n : Nat}, edgesBack l n = true → ∀ (j : Nat) (o : Oper), l[j]? = some o → ∀ e ∈ o.after, Region.binds .any e = true → e.on < n + j
  | [], _, _, j, o, h, _, _, _ => by simp at h
  | x :: l, n, h, j, o, hj, e, he, hb => by
    simp only [edgesBack, Bool.and_eq_true] at h
    cases j with
    | zero =>
      simp at hj
      subst hj
      have := List.all_eq_true.1 h.1 e (Array.mem_toList_iff.2 he)
      rw [hb] at this
      simp only [Bool.not_true, Bool.false_or] at this
      rw [Nat.blt_eq] at this
      omega
    | succ j =>
      have := edgesBack_spec h.2 j o (by simpa using hj) e he hb
      omega
end
end Go.Ev

namespace Go.Ev

section
variable {C : Ctx} {rec : Rec} {ops : Array Oper} {w0 : World} {B : Nat → Prop} {N : Nat} {Oc K : Nat → Prop} {t0 : Nat → Value} {Q : Exit → Act → World → Prop}

theorem list_wp (hN : namesOk C.P = true) (hOc : ∀ k, Oc k → k < w0.heap.size) (hrec : ∀ g os rr, rec g os = some rr → CallSpec C.P g os rr.1 rr.2) :
    ∀ {l : List Oper} {st st' : Slots} {fs : List Foot} {w : World} {act : Act}, Run C rec ops l st st' fs → (∀ o ∈ l, ∀ d, o.dst = some d → d < N ∧ ¬ K d) → Fr w0 B N Oc K t0 w st act → (∀ a w', Fr w0 B N Oc K t0 w' st' a → Q .normal a w') → wpList C.P ops Q l act w
  | [], _, _, _, w, act, .nil _, _, h, hQ => hQ _ _ h
  | o :: l, _, _, _, w, act, .cons _ _ st st1 st2 f fs h1 hr, hd, h, hQ => by
    unfold wpList
    exact step_wp (next := wpList C.P ops Q l) hN hOc hrec h (hd o (by simp)) h1 fun a w' hf => list_wp hN hOc hrec hr (fun p hp => hd p (by simp [hp])) hf hQ

theorem Fr.drew {w : World} {st : Slots} {act : Act} (h : Fr w0 B N Oc K t0 w st act) : Fr w0 B N Oc K t0 { w with drawn := w.drawn + 1 } st act := by
  obtain ⟨blk, h1, h2⟩ := h.ex
  exact ⟨⟨blk, h1.world (w' := { w with drawn := w.drawn + 1 }) (Nat.le_refl _) (fun _ _ _ => rfl) (fun _ _ q => q), h2⟩, h.defers, h.size, ⟨h.grow.os, h.grow.tape, h.grow.output, h.grow.size, h.grow.same⟩, h.kept⟩

/-- The operations that are not carried out yet: in the order of the text, each behind those that stand ahead. -/
structure Rest (ops : Array Oper) (listed : Array Bool) (items : List Item) : Prop where
  sorted : (items.map (·.i)).Pairwise (· < ·)
  mem : ∀ i, listed.getD i true = false ↔ i ∈ items.map (·.i)
  closed : ∀ k, listed.getD k false = true → ∀ i, Nat.testBit ((masks ops.toList []).getD k 0) i = true → listed.getD i false = true
  apart : ∀ (p q : Nat) (x y : Item), p < q → items[p]? = some x → items[q]? = some y → Nat.testBit ((masks ops.toList []).getD y.i 0) x.i = true ∨ x.f.apart y.f = true
  size : listed.size = ops.size

theorem getD_two {listed : Array Bool} {i : Nat} (h : i < listed.size) : listed.getD i true = listed.getD i false := by
  simp [h]

theorem any_wp (hN : namesOk C.P = true) (hOc : ∀ k, Oc k → k < w0.heap.size) (hrec : ∀ g os rr, rec g os = some rr → CallSpec C.P g os rr.1 rr.2) (hback : edgesBack ops.toList 0 = true) (hd : ∀ o ∈ ops.toList, ∀ d, o.dst = some d → d < N ∧ ¬ K d) {stN : Slots}
    (hQ : ∀ a w', Fr w0 B N Oc K t0 w' stN a → Q .normal a w') : ∀ (fuel : Nat) (listed : Array Bool) (items : List Item) (st : Slots) (w : World) (act : Act), items.length = fuel → LRun C rec ops items st stN → Rest ops listed items → Fr w0 B N Oc K t0 w st act →
      wpAny C.P .any ops Q fuel listed act w
  | 0, listed, items, st, w, act, hl, hr, hrest, h => by
    have : items = [] := List.eq_nil_of_length_eq_zero hl
    subst this
    cases hr with
    | nil _ _ hs =>
    refine ⟨?_, hQ _ _ (h.same hs.symm)⟩
    rw [List.eq_nil_iff_forall_not_mem]
    intro j hj
    have := (hrest.mem j).1 (mem_ready.1 hj).1
    simp at this
  | fuel + 1, listed, items, st, w, act, hl, hr, hrest, h => by
    refine ⟨fun hnil => ?_, fun i hi => ?_⟩
    · -- the first that is left is ready
      exfalso
      cases items with
      | nil => simp at hl
      | cons x l =>
        cases hr with
        | cons _ _ _ _ ho hx hr =>
        have hun : listed.getD x.i true = false := (hrest.mem x.i).2 (by simp)
        have : x.i ∈ Region.ready .any ops listed := by
          refine mem_ready.2 ⟨hun, x.o, ho, fun e he hb => ?_⟩
          have hlt := edgesBack_spec hback x.i x.o (by simpa using ho) e he hb
          rw [Nat.zero_add] at hlt
          have hxi : x.i < ops.size := (Array.getElem?_eq_some_iff.1 ho).1
          have hls : e.on < listed.size := by rw [hrest.size]; omega
          cases hle : listed.getD e.on false with
          | true => rfl
          | false =>
            exfalso
            rw [← getD_two hls] at hle
            have hm := (hrest.mem e.on).1 hle
            simp only [List.map_cons, List.mem_cons] at hm
            rcases hm with hm | hm
            · omega
            · have hs := hrest.sorted
              simp only [List.map_cons, List.pairwise_cons] at hs
              have := hs.1 _ hm
              omega
        rw [hnil] at this
        cases this
    · -- one that is ready is carried out
      obtain ⟨hun, o, ho, hall⟩ := mem_ready.1 hi
      have hmem := (hrest.mem i).1 hun
      obtain ⟨x, hx, hxi⟩ := List.mem_map.1 hmem
      obtain ⟨pre, post, rfl⟩ := List.append_of_mem hx
      have hap : ∀ y ∈ pre, y.f.apart x.f = true := by
        intro y hy
        obtain ⟨p, hp, rfl⟩ := List.mem_iff_getElem.1 hy
        have h1 : (pre ++ x :: post)[p]? = some pre[p] := by rw [List.getElem?_append_left hp]; exact List.getElem?_eq_getElem hp
        have h2 : (pre ++ x :: post)[pre.length]? = some x := by rw [List.getElem?_append_right (Nat.le_refl _)]; simp
        rcases hrest.apart p pre.length _ _ hp h1 h2 with hb | hb
        · exfalso
          rw [hxi] at hb
          have hlst := mask_listed hrest.closed hi _ hb
          have hin : listed.getD pre[p].i true = false := (hrest.mem _).2 (by simp; left; exact ⟨pre[p], hy, rfl⟩)
          have : pre[p].i < listed.size := by
            rcases Nat.lt_or_ge pre[p].i listed.size with h' | h'
            · exact h'
            · simp [Array.getElem?_eq_none h'] at hlst
          rw [getD_two this, hlst] at hin
          cases hin
        · exact hb
      have hfront := hr.front hap
      cases hfront with
      | cons _ _ _ _ ho2 hloc hr2 =>
      have hoo : o = x.o := by rw [hxi, ho] at ho2; exact Option.some.inj ho2
      subst hoo
      unfold wpOp
      simp only [ho]
      have hstep := hloc.again st (fun _ _ => rfl)
      refine step_wp (next := wpAny C.P .any ops Q fuel (listed.setIfInBounds i true)) hN hOc hrec h (hd x.o (by have := Array.mem_of_getElem? ho; exact Array.mem_toList_iff.2 this)) hstep fun a w' hf => ?_
      have hil : i < listed.size := by
        rcases Nat.lt_or_ge i listed.size with h' | h'
        · exact h'
        · simp [Array.getElem?_eq_none h'] at hun
      have hidx : ∀ j : Nat, (listed.setIfInBounds i true).getD j true = if j = i then true else listed.getD j true := by
        intro j
        by_cases hji : j = i
        · subst hji; simp [hil]
        · rw [if_neg hji, getD_set_ne true (Ne.symm hji)]
      have hidxf : ∀ j : Nat, (listed.setIfInBounds i true).getD j false = if j = i then true else listed.getD j false := by
        intro j
        by_cases hji : j = i
        · subst hji; simp [hil]
        · rw [if_neg hji, getD_set_ne false (Ne.symm hji)]
      have hsort := hrest.sorted
      rw [List.map_append, List.map_cons, List.pairwise_append] at hsort
      have hcons := List.pairwise_cons.1 hsort.2.1
      refine any_wp hN hOc hrec hback hd hQ fuel (listed.setIfInBounds i true) (pre ++ post) _ w' a (by simp at hl ⊢; omega) hr2 ⟨?_, fun j => ?_, fun k hk q hq => ?_, fun p q y z hpq hy hz => ?_, by simp [hrest.size]⟩ hf
      · rw [List.map_append, List.pairwise_append]
        exact ⟨hsort.1, hcons.2, fun a ha b hb => hsort.2.2 a ha b (by simp [hb])⟩
      · rw [hidx]
        by_cases hji : j = i
        · subst hji
          simp only [if_true, Bool.true_eq_false, false_iff]
          rw [List.map_append, List.mem_append]
          rintro (hm | hm)
          · have := hsort.2.2 _ hm x.i (by simp)
            omega
          · have := hcons.1 _ hm
            omega
        · rw [if_neg hji, hrest.mem j]
          simp only [List.map_append, List.map_cons, List.mem_append, List.mem_cons]
          rw [hxi]
          constructor
          · rintro (hm | hm | hm)
            · exact .inl hm
            · exact absurd hm hji
            · exact .inr hm
          · rintro (hm | hm)
            · exact .inl hm
            · exact .inr (.inr hm)
      · rw [hidxf] at hk ⊢
        split
        · rfl
        · split at hk
          · rename_i hki
            subst hki
            exact mask_listed hrest.closed hi q hq
          · exact hrest.closed k hk q hq
      · have back : ∀ (q : Nat) (y : Item), (pre ++ post)[q]? = some y → ∃ q', (pre ++ x :: post)[q']? = some y ∧ (q < pre.length → q' = q) ∧ (¬ q < pre.length → q' = q + 1) := by
          intro q y hy
          by_cases hq : q < pre.length
          · rw [List.getElem?_append_left hq] at hy
            exact ⟨q, by rw [List.getElem?_append_left hq]; exact hy, fun _ => rfl, fun h' => absurd hq h'⟩
          · rw [List.getElem?_append_right (by omega)] at hy
            refine ⟨q + 1, ?_, fun h' => absurd h' hq, fun _ => rfl⟩
            rw [List.getElem?_append_right (by omega), show q + 1 - pre.length = (q - pre.length) + 1 by omega, List.getElem?_cons_succ]
            exact hy
        obtain ⟨p', h1, h2, h3⟩ := back p y hy
        obtain ⟨q', g1, g2, g3⟩ := back q z hz
        refine hrest.apart p' q' y z ?_ h1 g1
        by_cases c1 : p < pre.length <;> by_cases c2 : q < pre.length
        · rw [h2 c1, g2 c2]; exact hpq
        · rw [h2 c1, g3 c2]; omega
        · omega
        · rw [h3 c1, g3 c2]; omega

theorem region_wp (hN : namesOk C.P = true) (hOc : ∀ k, Oc k → k < w0.heap.size) (hrec : ∀ g os rr, rec g os = some rr → CallSpec C.P g os rr.1 rr.2) {id : Nat} {draw : Bool} {st st' : Slots} {fs : List Foot} {w : World} {act : Act}
    (hrun : Run C rec ops ops.toList st st' fs) (hdr : draw = true → C.P.follows .mixedOrders = true ∧ orderFree ops.toList fs = true) (hd : ∀ o ∈ ops.toList, ∀ d, o.dst = some d → d < N ∧ ¬ K d) (h : Fr w0 B N Oc K t0 w st act)
    (hQ : ∀ a w', Fr w0 B N Oc K t0 w' st' a → Q .normal a w') : (Code.region id ops draw).wp C.P Q act w := by
  cases draw with
  | false => exact wp_region_list (list_wp hN hOc hrec hrun hd h hQ)
  | true =>
    obtain ⟨hm, hof⟩ := hdr rfl
    simp only [orderFree, Bool.and_eq_true] at hof
    obtain ⟨⟨hback, hlive⟩, hpairs⟩ := hof
    obtain ⟨items, g1, g2, g3⟩ := run_items (n := 0) hrun (fun j => by simp) (fun f hf => List.all_eq_true.1 hlive f hf)
    have hlen : items.length = ops.size := by
      have := congrArg List.length g2
      simpa using this
    refine wp_region_any hm (any_wp hN hOc hrec hback hd hQ ops.size _ items st _ act hlen g1 ⟨?_, fun i => ?_, fun k hk i _ => ?_, fun p q x y hpq hx hy => ?_, by simp⟩ h.drew)
    · rw [g2]; exact List.pairwise_lt_range'
    · rw [g2]
      simp only [List.mem_range'_1, Nat.zero_le, true_and, Nat.zero_add, Array.length_toList]
      by_cases hi : i < ops.size
      · simp [hi]
      · simp [hi]
    · by_cases hk' : k < ops.size
      · simp [hk'] at hk
      · simp [hk'] at hk
    · have hxi : x.i = p := by
        have : (items.map (·.i))[p]? = some x.i := by simp [hx]
        rw [g2] at this
        obtain ⟨h1, h2⟩ := List.getElem?_eq_some_iff.1 this
        simpa using h2.symm
      have hyi : y.i = q := by
        have : (items.map (·.i))[q]? = some y.i := by simp [hy]
        rw [g2] at this
        obtain ⟨h1, h2⟩ := List.getElem?_eq_some_iff.1 this
        simpa using h2.symm
      have hfx : fs[p]? = some x.f := by rw [← g3]; simp [hx]
      have hfy : fs[q]? = some y.f := by rw [← g3]; simp [hy]
      rw [hxi, hyi]
      exact allPairs_spec (done := []) (j := 0) rfl hpairs p q y.f x.f hpq (Nat.zero_le _) (by simpa using hfx) (by simpa using hfy)
end
end Go.Ev

namespace Go.Ev

section
variable {P : Program} {w : World} {act : Act}

/-- The frame's temporaries. -/
abbrev tmOf (act : Act) : Nat → Value := fun t => act.tmps.getD t Go.undef

/-- A result variable's value on the machine. -/
def rvSem (tm : Nat → Value) : ResultVar → Sem Value
  | .tmp t => pure (tm t)
  | .cell a t => do loadVar t (← asAddr (tm a))

theorem result_pend {Oc : Nat → Prop} {st st' : Slots} {blk : Blk} {r : ResultVar} {o : OV} (h : SRel w Oc st (tmOf act) blk) (hr : resultOf P st r = some (o, st')) :
    ∃ u blk' pb, (rvSem (tmOf act) r).run P w = .ok u w ∧ Pend w Oc st' (tmOf act) blk' (.home o) u pb ∧ (∀ t c k, blk' t c = some k → blk t c = some k) ∧ (∀ c k, pb c = some k → blk.has k) := by
  have F : ∀ {x : Nat} {a : Arg}, fetch P st 0 (.tmp x) = some a → ArgRep w (blk.off Oc) st (tmOf act) a (tmOf act x) := fun hf => fetch_rep h hf act (fun _ => rfl)
  cases r with
  | tmp t =>
    simp only [resultOf] at hr
    split at hr
    · cases hr
    · rename_i a ha
      have hA := F ha
      have hrun : (rvSem (tmOf act) (.tmp t)).run P w = .ok (tmOf act t) w := by simp [rvSem]
      split at hr
      · rename_i o' hsv
        cases hr
        refine ⟨tmOf act t, blk, fun _ => none, hrun, ⟨h.world (Nat.le_refl _) (fun _ _ _ => rfl) (fun k _ q => ?_), fun _ _ _ q => (by cases q), fun _ _ q => (by cases q), ?_⟩, fun _ _ _ q => q, fun _ _ q => (by cases q)⟩
        · rcases q with q | ⟨_, q⟩
          · exact q
          · cases q
        · have hrep := hA.rep
          rw [hsv] at hrep
          exact hrep.move ⟨fun k _ hno => ⟨rfl, by
            rintro (q | q | ⟨_, q⟩)
            · exact hno (.inl q)
            · exact hno (.inr q)
            · cases q⟩, fun _ _ => rfl⟩ (fun s hs => by simp [SV.root] at hs)
      · split at hr
        · rename_i o' es ho ht
          cases hr
          obtain ⟨blk', pb, h1, h2, h3⟩ := take_rep h hA ho ht
          exact ⟨tmOf act t, blk', pb, hrun, h1, h2, h3⟩
        · cases hr
      · rename_i s h' hsv
        split at hr
        · rename_i s' sh xs sp hrt
          cases hr
          obtain ⟨hg, hroot⟩ := hA.root s' _ hrt
          rw [hsv] at hroot
          cases (Option.some.inj hroot : s = s')
          have hrep := hA.rep
          rw [hsv] at hrep
          obtain ⟨v1, v2, z, hp, hv⟩ := hrep.2 _ _ _ _ hg rfl
          obtain ⟨bb, hf, hown⟩ := own_at h hg rfl hp
          have hz := hp.top_eq
          have hO := h.rep s
          rw [hg] at hO
          obtain ⟨hf0, hβ⟩ := (show ORep w (blk.off Oc) (.flat (.own sh xs sp)) (tmOf act s) (blk s none) (fun j => blk s (some j)) from hO).flat_inv
          -- the row is taken away
          have key := SRel.edit (w' := w) (Oc' := fun k => Oc k ∨ ∃ c, blk s c = some k) h ⟨s, .dead, .all⟩ (tmOf act s) (fun _ => none) (Nat.le_refl _) (fun _ _ _ _ => rfl) (fun k _ x => x) (by simp) (by simp)
            (fun _ => rfl) (fun t ht hroot _ => by rw [get_on] at hroot; exact absurd hroot (cutAll_root _ _))
          rw [updN_self] at key
          have hsub : ∀ t c k, updN blk s (fun _ => none) t c = some k → blk t c = some k ∧ t ≠ s := by
            intro t c k q
            by_cases ht : t = s
            · subst ht; rw [updN_same] at q; cases q
            · rw [updN_ne _ _ ht] at q; exact ⟨q, ht⟩
          have fin : ∀ m : Option Nat, (∀ k, m = some k → blk s none = some k) → FRep w (blk.off Oc) (.own sh (xs.take h') []) (tmOf act t) m →
              ∃ u blk' pb, (rvSem (tmOf act) (.tmp t)).run P w = .ok u w ∧ Pend w Oc (edits [⟨s, .dead, .all⟩] st) (tmOf act) blk' (.home (.flat (.own sh (xs.take h') []))) u pb ∧ (∀ t c k, blk' t c = some k → blk t c = some k) ∧ (∀ c k, pb c = some k → blk.has k) := by
            intro m hm hfr
            refine ⟨tmOf act t, updN blk s (fun _ => none), fun c => match c with | none => m | some _ => none, hrun, ⟨key.world (Nat.le_refl _) (fun _ _ _ => rfl) (fun k _ q => ?_), fun c c' k q q' => ?_, fun c k q => ?_, ?_⟩, fun t c k q => (hsub _ _ _ q).1, fun c k q => ?_⟩
            · rcases q with q | ⟨c, q⟩
              · exact .inl q
              · cases c with
                | none => exact .inr ⟨none, hm _ q⟩
                | some j => cases q
            · cases c <;> cases c' <;> first | rfl | (cases q; done) | (cases q'; done)
            · cases c with
              | none => exact h.out _ _ _ (hm _ q)
              | some j => cases q
            · refine .flat _ _ _ (hfr.move ⟨fun k _ hno => ⟨rfl, fun q => hno ?_⟩, fun _ _ => rfl⟩)
              rcases q with ⟨t', c, q⟩ | q | ⟨c, q⟩
              · exact .inl ⟨t', c, (hsub _ _ _ q).1⟩
              · exact .inr q
              · cases c with
                | none => exact .inl ⟨s, none, hm _ q⟩
                | some j => cases q
            · cases c with
              | none => exact ⟨s, none, hm _ q⟩
              | some j => cases q
          have htl : (xs.take h').length = h' := by rw [List.length_take]; omega
          rcases hv with ⟨b, q0, cap, c', q1, q2, q3, q4, q5⟩ | ⟨q1, A', c', q3, q4⟩
          · cases hf with
            | ownE =>
              have h0 : h' = 0 := by simpa using v2
              simp only [Value.slice.injEq] at q2
              have hc0 : c' = 0 := by omega
              rw [h0, hc0] at q3
              rw [h0] at fin ⊢
              refine fin none (fun _ e => by cases e) ?_
              rw [List.take_zero, q3]
              exact .ownE _ _
            | own _ _ _ b2 c2 cur ty' fr us how =>
              simp only [Value.slice.injEq, Option.some.injEq, Addr.mk.injEq] at q2
              obtain ⟨⟨rfl, _⟩, _, rfl⟩ := q2
              have hat : blk s none = some b2 := by
                obtain ⟨cc, hcc⟩ : ∃ cc, blk s cc = some b2 := hown b2 rfl
                cases cc with
                | none => exact hcc
                | some j => rw [hβ j] at hcc; cases hcc
              refine fin (some b2) (fun k e => by cases e; exact hat) ?_
              have hx : ∀ (i : Nat) (y : PV), (xs.take h')[i]? = some y → xs[i]? = some y := by
                intro i y hi
                rw [List.getElem?_take] at hi
                split at hi
                · exact hi
                · cases hi
              have hown' : OwnAt w (blk.off Oc) sh (xs.take h') [] b2 c' cur ty' fr us :=
                { heap := how.heap, thaw := how.thaw
                  size := Nat.le_trans (Nat.mul_le_mul_right _ (by omega)) how.size
                  len := by rw [htl]; omega
                  fits := fun i y hi => how.fits i y (hx i y hi)
                  cell := fun i y j d hi hd => how.cell i y j d (hx i y hi) hd
                  at_ := fun i y j d hi hd => how.at_ i y j d (hx i y hi) hd
                  rep := fun i y j d hi hd => how.rep i y j d (hx i y hi) hd
                  spare := fun j y hj => by simp at hj
                  capL := by have := how.capL; omega
                  spL := by simp only [List.length_nil, htl]; omega }
              have := FRep.own sh (xs.take h') [] b2 c' cur ty' fr us hown'
              rw [htl] at this
              rw [q3, Nat.zero_mul, Nat.sub_zero]
              exact this
          · subst q1 q4
            rw [List.take_zero] at fin ⊢
            refine fin none (fun _ e => by cases e) ?_
            rw [q3]
            exact .ownE _ _
        · cases hr
      · split at hr
        · rename_i v es hv hf
          cases hr
          obtain ⟨blk', h1, h2, h3, _, _⟩ := freeze_arg h (fun s o hrt => hA.root s o hrt) hv hf
          have hrep := arg_pv h hA hv
          refine ⟨tmOf act t, blk', fun _ => none, hrun, ⟨h1.world (Nat.le_refl _) (fun _ _ _ => rfl) (fun k _ q => ?_), fun _ _ _ q => (by cases q), fun _ _ q => (by cases q), ?_⟩, h2, fun _ _ q => (by cases q)⟩
          · rcases q with q | ⟨_, q⟩
            · exact q
            · cases q
          · refine .flat _ _ _ (.val _ _ (hrep.move fun k _ hno => ⟨rfl, fun q => hno ?_⟩))
            rcases q with ⟨t', c, q⟩ | q | ⟨_, q⟩
            · exact ⟨.inl ⟨t', c, h2 _ _ _ q⟩, h3 _ _ _ q⟩
            · refine ⟨.inr q, fun ow => ?_⟩
              obtain ⟨s, c, _, q'⟩ := owns_root ow
              exact (h.out _ _ _ q').1 q
            · cases q
        · cases hr
  | cell x t =>
    simp only [resultOf] at hr
    split at hr
    · rename_i a sh ha hs
      have hA := F ha
      split at hr
      · rename_i s s' cs hsv hrt
        obtain ⟨hg, hroot⟩ := hA.root s' _ hrt
        rw [hsv] at hroot
        cases (Option.some.inj hroot : s = s')
        have hrep := hA.rep
        rw [hsv] at hrep
        have hu := (hrep.2 _ hg).2.top_eq
        have hO := h.rep s
        rw [hg] at hO
        obtain ⟨b, hb, hm, cur, e, fr, hheap, hth, hsz, hcells⟩ := ORep.box_inv hO
        have hck : ∀ (j : Nat) (f : FV), cs[j]? = some f → f.cellOk := fun j f hj => ORep.cellOk hO (by simp) hj
        -- the variable is taken away
        have key := SRel.edit (w' := w) (Oc' := fun k => Oc k ∨ ∃ c, blk s c = some k) h ⟨s, .dead, .all⟩ (tmOf act s) (fun _ => none) (Nat.le_refl _) (fun _ _ _ _ => rfl) (fun k _ x => x) (by simp) (by simp)
          (fun _ => rfl) (fun t ht hroot _ => by rw [get_on] at hroot; exact absurd hroot (cutAll_root _ _))
        rw [updN_self] at key
        have hsub : ∀ t c k, updN blk s (fun _ => none) t c = some k → blk t c = some k ∧ t ≠ s := by
          intro t c k q
          by_cases ht : t = s
          · subst ht; rw [updN_same] at q; cases q
          · rw [updN_ne _ _ ht] at q; exact ⟨q, ht⟩
        have hL : Loose w Oc (edits [⟨s, .dead, .all⟩] st) (tmOf act) (updN blk s fun _ => none) cs cur (fun j => blk s (some j)) := by
          refine ⟨key.world (Nat.le_refl _) (fun _ _ _ => rfl) (fun k _ q => ?_), fun j j' k q q' => Option.some.inj (h.inj _ _ _ _ _ q q').2, fun j k q => h.out _ _ _ q, hsz, hck, hcells.move ⟨fun k _ hno => ⟨rfl, fun q => hno ?_⟩, fun _ _ => rfl⟩⟩
          · rcases q with q | ⟨j, q⟩
            · exact .inl q
            · exact .inr ⟨some j, q⟩
          · rcases q with ⟨t', c, q⟩ | q | ⟨j, q⟩
            · exact .inl ⟨t', c, (hsub _ _ _ q).1⟩
            · exact .inr q
            · exact .inl ⟨s, some j, q⟩
        have haddr : (asAddr (tmOf act x)).run P w = .ok ⟨b, 0, none⟩ w := by
          rw [hu, hb]; simp [asAddr]
        split at hr
        · split at hr
          · rename_i f
            cases hr
            obtain ⟨u, u1, u2⟩ := hcells.rep 0 f rfl
            have hc : w.cell? ⟨b, 0, none⟩ = some u := by rw [cell_at hheap]; exact u1
            refine ⟨u, _, fun c => match c with | none => blk s (some 0) | some _ => none, ?_, ⟨hL.base.world (Nat.le_refl _) (fun _ _ _ => rfl) (fun k _ q => ?_), fun c c' k q q' => ?_, fun c k q => ?_, ?_⟩, fun t c k q => (hsub _ _ _ q).1, fun c k q => ?_⟩
            · simp only [rvSem, Sem.run_bind, haddr, Result.andThen_ok]
              exact run_loadVar_one hs hc
            · rcases q with q | ⟨c, q⟩
              · exact .inl q
              · cases c with
                | none => exact .inr ⟨0, q⟩
                | some j => cases q
            · cases c <;> cases c' <;> first | rfl | (cases q; done) | (cases q'; done)
            · cases c with
              | none => exact h.out _ _ _ q
              | some j => cases q
            · refine .flat _ _ _ (u2.move ⟨fun k _ hno => ⟨rfl, fun q => hno ?_⟩, fun _ _ => rfl⟩)
              rcases q with ⟨t', c, q⟩ | q | ⟨c, q⟩
              · exact .inl ⟨t', c, (hsub _ _ _ q).1⟩
              · exact .inr q
              · cases c with
                | none => exact .inl ⟨s, some 0, q⟩
                | some j => cases q
            · cases c with
              | none => exact ⟨s, some 0, q⟩
              | some j => cases q
          · cases hr
        · rename_i n
          split at hr
          · rename_i hn
            have hn := Nat.eq_of_beq_eq_true hn
            cases hr
            have hp := hL.agg
            refine ⟨.agg cur, _, _, ?_, hp, fun t c k q => (hsub _ _ _ q).1, fun c k q => ?_⟩
            · simp only [rvSem, Sem.run_bind, haddr, Result.andThen_ok]
              have := run_loadVar_agg (P := P) (w := w) hs (a := ⟨b, 0, none⟩) (f := fun q => cur.getD q Go.undef) (fun q hq => by
                rw [addr_add, Nat.zero_add, cell_at hheap]
                have : q < cur.size := by omega
                simp [this])
              rw [this]
              have e1 : ((List.range n).map fun q => cur.getD q Go.undef).toArray = cur := by
                apply Array.ext
                · simp; omega
                · intro i h1 h2
                  simp [h2]
              rw [e1]
            · cases c with
              | none => cases q
              | some j => exact ⟨s, some j, q⟩
          · cases hr
      · cases hr
    · cases hr

/-- All results, beside the frame. -/
structure Resulted (w : World) (Oc : Nat → Prop) (st : Slots) (tm : Nat → Value) (blk0 blk pbs : Blk) (rs : List OV) (vs : List Value) : Prop where
  frame : SRel w (fun k => Oc k ∨ pbs.has k) st tm blk
  sub : ∀ t c k, blk t c = some k → blk0 t c = some k
  from_ : ∀ i c k, pbs i c = some k → blk0.has k
  inj : ∀ i c i' c' k, pbs i c = some k → pbs i' c' = some k → i = i' ∧ c = c'
  rep : ∀ (i : Nat) (o : OV) (u : Value), rs[i]? = some o → vs[i]? = some u → ORep w (blk.off fun k => Oc k ∨ pbs.has k) o u (pbs i none) (fun j => pbs i (some j))
  len : vs.length = rs.length
  end_ : ∀ i, rs.length ≤ i → ∀ c, pbs i c = none

theorem results_rep : ∀ {rvs : List ResultVar} {st st' : Slots} {Oc : Nat → Prop} {blk : Blk} {rs : List OV}, SRel w Oc st (tmOf act) blk → resultsOf P rvs st = some (rs, st') →
    ∃ vs blk' pbs, (rvs.mapM (rvSem (tmOf act))).run P w = .ok vs w ∧ Resulted w Oc st' (tmOf act) blk blk' pbs rs vs
  | [], st, st', Oc, blk, rs, h, hr => by
    simp only [resultsOf, Option.some.injEq, Prod.mk.injEq] at hr
    obtain ⟨rfl, rfl⟩ := hr
    refine ⟨[], blk, fun _ _ => none, by simp, ⟨h.world (Nat.le_refl _) (fun _ _ _ => rfl) (fun k _ q => ?_), fun _ _ _ q => q, fun _ _ _ q => (by cases q), fun _ _ _ _ _ q => (by cases q), fun i o u q => (by simp at q), rfl, fun _ _ _ => rfl⟩⟩
    rcases q with q | ⟨_, _, q⟩
    · exact q
    · cases q
  | r :: rvs, st, st', Oc, blk, rs, h, hr => by
    simp only [resultsOf] at hr
    split at hr
    case h_2 => cases hr
    rename_i o st1 h1
    split at hr
    case h_2 => cases hr
    rename_i os st2 h2
    cases hr
    obtain ⟨u, blk1, pb, g1, g2, g3, g4⟩ := result_pend h h1
    obtain ⟨vs, blk2, pbs, m1, H⟩ := results_rep g2.base h2
    refine ⟨u :: vs, blk2, consBlk pb pbs, ?_, ⟨H.frame.world (Nat.le_refl _) (fun _ _ _ => rfl) (fun k _ q => ?_), fun t c k q => g3 _ _ _ (H.sub _ _ _ q), fun i c k q => ?_, fun i c i' c' k q q' => ?_, fun i o' u' q q' => ?_, by simp [H.len], fun i hi c => ?_⟩⟩
    · simp only [List.mapM_cons, Sem.run_bind, g1, Result.andThen_ok, m1]
      simp
    · rcases q with q | q
      · exact .inl (.inl q)
      · rcases (consBlk_has k).1 q with q | q
        · exact .inl (.inr q)
        · exact .inr q
    · cases i with
      | zero => exact g4 c k q
      | succ i =>
        obtain ⟨t, c', q'⟩ := H.from_ i c k q
        exact ⟨t, c', g3 _ _ _ q'⟩
    · have hno : ∀ c i c' k, pb c = some k → pbs i c' = some k → False := by
        intro c i c' k h1 h2
        obtain ⟨t, c2, q⟩ := H.from_ i c' k h2
        exact (g2.base.out _ _ _ q).1 (.inr ⟨c, h1⟩)
      cases i with
      | zero =>
        cases i' with
        | zero => exact ⟨rfl, g2.inj _ _ _ q q'⟩
        | succ i' => exact (hno _ _ _ _ q q').elim
      | succ i =>
        cases i' with
        | zero => exact (hno _ _ _ _ q' q).elim
        | succ i' =>
          obtain ⟨e1, e2⟩ := H.inj _ _ _ _ _ q q'
          exact ⟨by rw [e1], e2⟩
    · have hO : ∀ k, (blk2.off fun k => Oc k ∨ (consBlk pb pbs).has k) k → (blk2.off fun k => (Oc k ∨ ∃ c, pb c = some k) ∨ pbs.has k) k := by
        rintro k (q | q | q)
        · exact .inl q
        · exact .inr (.inl (.inl q))
        · rcases (consBlk_has k).1 q with q | q
          · exact .inr (.inl (.inr q))
          · exact .inr (.inr q)
      cases i with
      | zero =>
        simp at q q'
        subst q; subst q'
        have hrep : ORep w _ o u (pb none) (fun j => pb (some j)) := g2.rep
        refine hrep.move ⟨fun k _ hno => ⟨rfl, fun q => hno ?_⟩, fun _ _ => rfl⟩
        rcases hO k q with ⟨t, c, q⟩ | q | ⟨i, c, q⟩
        · exact .inl ⟨t, c, H.sub _ _ _ q⟩
        · exact .inr q
        · exact .inl (H.from_ i c k q)
      | succ i =>
        have := H.rep i o' u' (by simpa using q) (by simpa using q')
        exact this.move ⟨fun k _ hno => ⟨rfl, fun q => hno (hO k q)⟩, fun _ _ => rfl⟩
    · cases i with
      | zero => simp at hi
      | succ i => exact H.end_ i (by simpa using hi) c

theorem results_run {fn : Func} {act : Act} {vs : List Value} (h : (fn.results.toList.mapM (rvSem (tmOf act))).run P w = .ok vs w) :
    (results fn act.tmps).run P w = .ok (if h : vs.length = 1 then vs[0] else .tuple vs.toArray) w := by
  unfold results
  have e : (fn.results.mapM (rvSem (tmOf act)) : Sem (Array Value)) = List.toArray <$> fn.results.toList.mapM (rvSem (tmOf act)) := by
    have : fn.results = fn.results.toList.toArray := by simp
    rw [this, List.mapM_toArray]
  have e2 : ∀ f : ResultVar → Sem Value, (∀ r, f r = rvSem (tmOf act) r) → (do let vs ← fn.results.mapM f; pure (if h : vs.size = 1 then vs[0] else .tuple vs) : Sem Value) = (do let vs ← List.toArray <$> fn.results.toList.mapM (rvSem (tmOf act)); pure (if h : vs.size = 1 then vs[0] else .tuple vs)) := by
    intro f hf
    rw [funext hf, e]
  rw [e2 _ (fun r => by cases r <;> rfl)]
  rw [map_eq_pure_bind]
  simp only [Sem.run_bind, h, Result.andThen_ok, Sem.run_pure]
  simp
end
end Go.Ev

namespace Go.Ev

theorem least {p : Nat → Prop} (h : ∃ m, p m) : ∃ m, p m ∧ ∀ k, p k → m ≤ k := by
  obtain ⟨m, hm⟩ := h
  induction m using Nat.strongRecOn with
  | _ m ih =>
    by_cases hk : ∃ k, k < m ∧ p k
    · obtain ⟨k, h1, h2⟩ := hk
      exact ih k h1 h2
    · refine ⟨m, hm, fun k hp => ?_⟩
      rcases Nat.lt_or_ge k m with h' | h'
      · exact absurd ⟨k, h', hp⟩ hk
      · exact h'

def exitOf : Ex → Exit
  | .normal => .normal
  | .exit id => .exit id
  | .ret => .ret

section
variable {C : Ctx} {rec : Rec} {n : Nat} {lv : List (List Nat)} {w0 : World} {B : Nat → Prop} {N : Nat} {Oc K : Nat → Prop} {t0 : Nat → Value}

theorem Fr.keep {w : World} {st : Slots} {act : Act} (h : Fr w0 B N Oc K t0 w st act) (id : Option Nat) : Fr w0 B N Oc K t0 w (keepAt lv id st) act := by
  refine h.weaken fun t => ?_
  unfold keepAt
  split
  · split
    · rw [get_keep]
      split
      · exact .inl rfl
      · exact .inr rfl
    · exact .inl rfl
  · exact .inl rfl

theorem needB_some {α : Type} {c : Bool} {t : Option α} {x : α} (h : needB c t = some x) : c = true ∧ t = some x := by
  cases c with
  | true => exact ⟨rfl, h⟩
  | false => cases h

theorem fixC_same {st : Slots} {c : Operand} {P : Program} {a : Arg} {v : Bool} (hf : fetch P st 0 c = some a) (hb : a.bool = some v) : Same (fixC st c v) st := by
  cases c with
  | tmp t =>
    refine fix_same ?_
    have hsv : ∃ b, a.sv = .val (.bool b) ∧ b = v := by
      unfold Arg.bool at hb
      split at hb
      · rename_i b hsv; cases hb; exact ⟨_, hsv, rfl⟩
      · cases hb
    obtain ⟨b, hsv, rfl⟩ := hsv
    unfold fetch at hf
    dsimp only at hf
    split at hf
    · cases hf
    · rename_i v hg; cases hf; rw [hg]; exact hsv
    · rename_i sh hg; cases hf; cases hsv
    · rename_i o hn1 hn2 hg; cases hf; cases hsv
    · rename_i sh v hg; cases hf; cases hsv
    all_goals
      obtain ⟨o, _, rfl⟩ := rooted_eq hf
      cases hsv
  | _ => exact Same.refl _

theorem code_wp {α : Type} (hN : namesOk C.P = true) (hOc : ∀ k, Oc k → k < w0.heap.size) (hrec : ∀ g os rr, rec g os = some rr → CallSpec C.P g os rr.1 rr.2) {io : List Nat} (hK : ∀ t, K t → t ∈ io) :
    ∀ (c : Code) (st : Slots) (k : Ex → Slots → Option α) (x : α) (w : World) (act : Act) (Q : Exit → Act → World → Prop), evalK C rec n lv c st k = some x → dstsOk N io c = true → Fr w0 B N Oc K t0 w st act →
      (∀ e st' a w', k e st' = some x → Fr w0 B N Oc K t0 w' st' a → Q (exitOf e) a w') → c.wp C.P Q act w := by
  intro c
  induction c with
  | skip => intro st k x w act Q h _ hf hQ; exact wp_skip (hQ .normal st act w h hf)
  | label l => intro st k x w act Q h _ hf hQ; exact wp_label (hQ .normal st act w h hf)
  | region id ops draw =>
    intro st k x w act Q h hd hf hQ
    simp only [evalK] at h
    obtain ⟨st', fs, h1, h2⟩ := stepsK_some h
    have hds : ∀ o ∈ ops.toList, ∀ d, o.dst = some d → d < N ∧ ¬ K d := by
      intro o ho d hdd
      simp only [dstsOk] at hd
      have := List.all_eq_true.1 hd o ho
      rw [hdd] at this
      simp only [Bool.and_eq_true, Nat.blt_eq, Bool.not_eq_true'] at this
      refine ⟨this.1, fun hk => ?_⟩
      rw [(memN_iff d io).2 (hK d hk)] at this
      cases this.2
    cases draw with
    | false => exact region_wp hN hOc hrec h1 (fun e => by cases e) hds (hf.keep _) fun a w' hf' => hQ .normal st' a w' h2 hf'
    | true =>
      obtain ⟨h3, h4⟩ := needB_some h2
      obtain ⟨h5, h6⟩ := needB_some h4
      exact region_wp hN hOc hrec h1 (fun _ => ⟨h3, by simpa using h5⟩) hds (hf.keep _) fun a w' hf' => hQ .normal st' a w' h6 hf'
  | seq a b iha ihb =>
    intro st k x w act Q h hd hf hQ
    simp only [dstsOk, Bool.and_eq_true] at hd
    refine wp_seq (iha st _ x w act _ h hd.1 hf fun e st' a' w' he hf' => ?_)
    cases e with
    | normal => exact ihb st' k x w' a' Q he hd.2 hf' hQ
    | exit id => exact hQ (.exit id) st' a' w' he hf'
    | ret => exact hQ .ret st' a' w' he hf'
  | cond c a b iha ihb =>
    intro st k x w act Q h hd hf hQ
    simp only [dstsOk, Bool.and_eq_true] at hd
    simp only [evalK] at h
    split at h
    · rename_i g hg
      split at h
      · rename_i v hv
        obtain ⟨blk, hS, hB⟩ := hf.ex
        have hev := (fetch_rep hS hg act (fun _ => rfl)).bool hv
        cases v with
        | true => exact wp_cond_true hev (iha _ k x w act Q (by simpa [ifB] using h) hd.1 (hf.same (fixC_same hg hv)) hQ)
        | false => exact wp_cond_false hev (ihb _ k x w act Q (by simpa [ifB] using h) hd.2 (hf.same (fixC_same hg hv)) hQ)
      · cases h
    · cases h
  | block id c ih =>
    intro st k x w act Q h hd hf hQ
    refine wp_block (ih st _ x w act _ h hd hf fun e st' a' w' he hf' => ?_)
    cases e with
    | normal => exact hQ .normal st' a' w' he hf'
    | ret => exact hQ .ret st' a' w' he hf'
    | exit j =>
      simp only [exitOf, Exit.inBlock]
      dsimp only at he
      by_cases hj : j = id
      · subst hj
        rw [if_pos rfl]
        simp only [Nat.beq_refl] at he
        exact hQ .normal st' a' w' he hf'
      · rw [if_neg hj]
        rw [nbeq hj] at he
        exact hQ (.exit j) st' a' w' he hf'
  | loop c ih =>
    intro st k x w act Q h hd hf hQ
    classical
    simp only [evalK] at h
    let Inv : Nat → Act → World → Prop := fun m a w' => ∃ st', loopK (evalK C rec n lv c) (keepAt lv (firstRegion c)) k m st' = some x ∧ Fr w0 B N Oc K t0 w' st' a
    let μ : Act → World → Nat := fun a w' => if h : ∃ m, Inv m a w' then Classical.choose (least h) else 0
    refine wp_loop (fun a w' => ∃ m, Inv m a w') μ ⟨n, _, h, hf.keep _⟩ fun a w' hI => ?_
    have hμ : μ a w' = Classical.choose (least hI) := by simp only [μ]; rw [dif_pos hI]
    have hspec := (Classical.choose_spec (least hI)).1
    rw [← hμ] at hspec
    generalize hm : μ a w' = m at hspec ⊢
    obtain ⟨st', h1, h2⟩ := hspec
    cases m with
    | zero => cases h1
    | succ m =>
      refine ih st' _ x w' a _ h1 hd h2 fun e st2 a2 w2 he hf2 => ?_
      cases e with
      | normal =>
        have hI2 : Inv m a2 w2 := ⟨_, he, hf2.keep _⟩
        refine ⟨⟨m, hI2⟩, ?_⟩
        have hex : ∃ m, Inv m a2 w2 := ⟨m, hI2⟩
        have : μ a2 w2 = Classical.choose (least hex) := by simp only [μ]; rw [dif_pos hex]
        rw [this]
        have := (Classical.choose_spec (least hex)).2 m hI2
        omega
      | exit id => exact hQ (.exit id) st2 a2 w2 he hf2
      | ret => exact hQ .ret st2 a2 w2 he hf2
  | scope c ih =>
    intro st k x w act Q h hd hf hQ
    simp only [dstsOk] at hd
    refine wp_scope_straight (ih st k x w act _ h hd hf fun e st' a w' he hf' => ?_)
    have := hQ e st' a w' he hf'
    cases e <;> exact this
  | exit id => intro st k x w act Q h _ hf hQ; exact wp_exit (hQ (.exit id) st act w h hf)
  | ret => intro st k x w act Q h _ hf hQ; exact wp_ret (hQ .ret st act w h hf)
  | rangeFunc f ps a b _ _ => intro st k x w act Q h; simp [evalK] at h
  | goto l => intro st k x w act Q h; simp [evalK] at h
  | refuse s => intro st k x w act Q h; simp [evalK] at h
end

/-- Slots that are no homes are forgotten. -/
def homeOnly : SV → SV
  | .home o => .home o
  | _ => .dead

theorem outs_get : ∀ {ms : List Md} {st : Slots} {n i : Nat} {o : OV}, (outsOf st n ms)[i]? = some o → o ≠ .flat .gone → st.get (n + i) = .home o
  | [], _, _, _, _, h, _ => by simp [outsOf] at h
  | m :: ms, st, n, 0, o, h, hne => by
    cases m with
    | io k =>
      simp only [outsOf, List.getElem?_cons_zero, Option.some.injEq] at h
      split at h
      · rename_i o' ho; subst h; simpa using ho
      · exact absurd h.symm hne
    | ro => simp only [outsOf, List.getElem?_cons_zero, Option.some.injEq] at h; exact absurd h.symm hne
    | tk => simp only [outsOf, List.getElem?_cons_zero, Option.some.injEq] at h; exact absurd h.symm hne
  | m :: ms, st, n, i + 1, o, h, hne => by
    have : (outsOf st (n + 1) ms)[i]? = some o := by cases m <;> simpa [outsOf] using h
    have := outs_get this hne
    rw [show n + (i + 1) = n + 1 + i by omega]; exact this

theorem outs_io : ∀ {ms : List Md} {st : Slots} {n i : Nat} {o : OV}, (outsOf st n ms)[i]? = some o → o ≠ .flat .gone → n + i ∈ ioSlots n ms ∧ i < ms.length
  | [], _, _, _, _, h, _ => by simp [outsOf] at h
  | m :: ms, st, n, 0, o, h, hne => by
    cases m with
    | io k => exact ⟨by simp [ioSlots], by simp⟩
    | ro => simp only [outsOf, List.getElem?_cons_zero, Option.some.injEq] at h; exact absurd h.symm hne
    | tk => simp only [outsOf, List.getElem?_cons_zero, Option.some.injEq] at h; exact absurd h.symm hne
  | m :: ms, st, n, i + 1, o, h, hne => by
    have : (outsOf st (n + 1) ms)[i]? = some o := by cases m <;> simpa [outsOf] using h
    obtain ⟨h1, h2⟩ := outs_io this hne
    rw [show n + (i + 1) = n + 1 + i by omega]
    refine ⟨?_, by simp; omega⟩
    cases m <;> simp [ioSlots, h1]

theorem resultVal_list (vs : List Value) (f : Nat → Value) (hf : ∀ j (u : Value), vs[j]? = some u → f j = u) : (if h : vs.length = 1 then vs[0] else Value.tuple vs.toArray) = resultVal vs.length f := by
  match vs, hf with
  | [], _ => rfl
  | [v], hf => simp [resultVal, hf 0 v rfl]
  | v1 :: v2 :: vs, hf =>
    have : (List.range (v1 :: v2 :: vs).length).map f = v1 :: v2 :: vs := by
      apply List.ext_getElem?
      intro i
      by_cases hi : i < (v1 :: v2 :: vs).length
      · have h1 := List.getElem?_eq_getElem hi
        rw [List.getElem?_map, List.getElem?_range hi, h1, Option.map_some, hf i _ h1]
      · rw [List.getElem?_eq_none (by simpa using hi), List.getElem?_eq_none (by simpa using hi)]
    show _ = Value.tuple ((List.range (v1 :: v2 :: vs).length).map f).toArray
    rw [this]
    simp

section
variable {C : Ctx} {rec : Rec} {n : Nat}

/-- The results come into slots of their own. -/
theorem put_results {w : World} {Oc : Nat → Prop} {M : Nat} : ∀ (rs : List OV) (vs : List Value) (pbs : Blk) (st : Slots) (tm : Nat → Value) (blk : Blk) (d : Nat), SRel w (fun k => Oc k ∨ pbs.has k) st tm blk → vs.length = rs.length → (∀ t, (st.get t).root = none) → (∀ i c i' c' k, pbs i c = some k → pbs i' c' = some k → i = i' ∧ c = c') →
    (∀ i, rs.length ≤ i → ∀ c, pbs i c = none) → (∀ i c k, pbs i c = some k → ¬ Oc k ∧ k < w.heap.size) → (∀ (i : Nat) (o : OV) (u : Value), rs[i]? = some o → vs[i]? = some u → ORep w (blk.off fun k => Oc k ∨ pbs.has k) o u (pbs i none) (fun j => pbs i (some j))) → M ≤ d →
    ∃ st' tm' blk', SRel w Oc st' tm' blk' ∧ (∀ t, t < d → st'.get t = st.get t ∧ tm' t = tm t) ∧ (∀ (j : Nat) (o : OV), rs[j]? = some o → st'.get (d + j) = .home o) ∧ (∀ (j : Nat) (u : Value), vs[j]? = some u → tm' (d + j) = u) ∧ (∀ t c k, blk' t c = some k → (∃ t c, blk t c = some k) ∨ pbs.has k)
  | [], vs, pbs, st, tm, blk, d, h, hl, _, _, he, _, _, _ => by
    have : vs = [] := List.eq_nil_of_length_eq_zero (by simpa using hl)
    subst this
    refine ⟨st, tm, blk, h.world (Nat.le_refl _) (fun _ _ _ => rfl) (fun k _ q => .inl q), fun _ _ => ⟨rfl, rfl⟩, fun j o q => by simp at q, fun j u q => by simp at q, fun t c k q => .inl ⟨t, c, q⟩⟩
  | o :: rs, [], _, _, _, _, _, _, hl, _, _, _, _, _, _ => by simp at hl
  | o :: rs, u :: vs, pbs, st, tm, blk, d, h, hl, hr, hi, he, hout, hrep, hM => by
    let tl : Blk := fun i => pbs (i + 1)
    have hhas : ∀ k, pbs.has k ↔ (∃ c, pbs 0 c = some k) ∨ tl.has k := by
      intro k
      constructor
      · rintro ⟨i, c, q⟩
        cases i with
        | zero => exact .inl ⟨c, q⟩
        | succ i => exact .inr ⟨i, c, q⟩
      · rintro (⟨c, q⟩ | ⟨i, c, q⟩)
        · exact ⟨0, c, q⟩
        · exact ⟨i + 1, c, q⟩
    have hp : Pend w (fun k => Oc k ∨ tl.has k) st tm blk (.home o) u (pbs 0) := by
      refine ⟨h.world (Nat.le_refl _) (fun _ _ _ => rfl) (fun k _ q => ?_), fun c c' k q q' => (hi _ _ _ _ _ q q').2, fun c k q => ⟨?_, (hout _ _ _ q).2⟩, ?_⟩
      · rcases q with (q | q) | q
        · exact .inl q
        · exact .inr ((hhas k).2 (.inr q))
        · exact .inr ((hhas k).2 (.inl q))
      · rintro (q' | ⟨i, c', q'⟩)
        · exact (hout _ _ _ q).1 q'
        · have := (hi _ _ _ _ _ q q').1
          omega
      · have := hrep 0 o u rfl rfl
        refine ORep.move this ⟨fun k _ hno => ⟨rfl, ?_⟩, fun _ _ => rfl⟩
        rintro (q | (q | q) | q)
        · exact hno (.inl q)
        · exact hno (.inr (.inl q))
        · exact hno (.inr (.inr ((hhas k).2 (.inr q))))
        · exact hno (.inr (.inr ((hhas k).2 (.inl q))))
    have hput := hp.put d
    have hget : ∀ t, (st.put d (.home o)).get t = if t = d then .home o else st.get t := by
      intro t
      show (Edit.on ⟨d, .home o, .all⟩ st).get t = _
      rw [get_e]
      by_cases e : t = d
      · subst e; simp
      · rw [if_neg e, if_neg e, Cut.one_far]
        rw [hr t]; simp
    obtain ⟨st', tm', blk', g1, g2, g3, g4, g5⟩ := put_results (Oc := Oc) (M := M) rs vs tl (st.put d (.home o)) _ _ (d + 1) hput (by simpa using hl) (fun t => by rw [hget]; split; rfl; exact hr t) (fun i c i' c' k q q' => by
        obtain ⟨e1, e2⟩ := hi _ _ _ _ _ q q'
        exact ⟨by omega, e2⟩) (fun i hi' c => he (i + 1) (by simp; omega) c) (fun i c k q => hout _ _ _ q) (fun i o' u' q q' => by
        have := hrep (i + 1) o' u' (by simpa using q) (by simpa using q')
        refine ORep.move this ⟨fun k _ hno => ⟨rfl, ?_⟩, fun _ _ => rfl⟩
        rintro (⟨t, c, q⟩ | q | q)
        · by_cases ht : t = d
          · subst ht; rw [updN_same] at q; exact hno (.inr (.inr ⟨0, c, q⟩))
          · rw [updN_ne _ _ ht] at q; exact hno (.inl ⟨t, c, q⟩)
        · exact hno (.inr (.inl q))
        · exact hno (.inr (.inr ((hhas k).2 (.inr q))))) (by omega)
    refine ⟨st', tm', blk', g1, fun t ht => ?_, fun j o' q => ?_, fun j u' q => ?_, fun t c k q => ?_⟩
    · obtain ⟨e1, e2⟩ := g2 t (by omega)
      rw [e1, e2, hget, if_neg (by omega), updN_ne _ _ (by omega)]
      exact ⟨rfl, rfl⟩
    · cases j with
      | zero =>
        simp at q
        subst q
        rw [Nat.add_zero, (g2 d (by omega)).1, hget, if_pos rfl]
      | succ j =>
        rw [show d + (j + 1) = d + 1 + j by omega]
        exact g3 j o' (by simpa using q)
    · cases j with
      | zero =>
        simp at q
        subst q
        rw [Nat.add_zero, (g2 d (by omega)).2, updN_same]
      | succ j =>
        rw [show d + (j + 1) = d + 1 + j by omega]
        exact g4 j u' (by simpa using q)
    · rcases g5 t c k q with ⟨t', c', q⟩ | ⟨i, c', q⟩
      · by_cases ht : t' = d
        · subst ht; rw [updN_same] at q; exact .inr ⟨0, c', q⟩
        · rw [updN_ne _ _ ht] at q; exact .inl ⟨t', c', q⟩
      · exact .inr ⟨i + 1, c', q⟩

theorem body_spec (hN : namesOk C.P = true) (hrec : ∀ g os rr, rec g os = some rr → CallSpec C.P g os rr.1 rr.2) {f : FuncId} {os : List OV} {r : List OV × List OV} (h : callBody C rec n f os = some r) : CallSpec C.P f os r.1 r.2 := by
  unfold callBody at h
  split at h
  · cases h
  · rename_i fn hfn
    split at h
    · cases h
    · rename_i c hc
      split at h
      case h_2 => cases h
      rename_i hok
      simp only [Bool.and_eq_true, Nat.ble_eq] at hok
      intro w Oc us ab hul hOc hS
      refine calls_of_wp hfn hc ?_
      have htm : (fun t => (us.toArray ++ Array.replicate (fn.ntmps - us.toArray.size) Go.undef).getD t Go.undef) = fun t => us.getD t Go.undef := by
        funext t
        by_cases ht : t < us.length
        · simp [Array.getD, List.getD, ht, Array.getElem_append]
          intro _; omega
        · simp only [Array.getD, List.getD]
          rw [List.getElem?_eq_none (by omega)]
          split
          · rename_i h1
            simp at h1
            simp [Array.getElem_append, ht]
          · rfl
      have hFr : Fr w ab.has fn.ntmps Oc (fun t => t ∈ ioSlots 0 (C.mode f) ∧ t < us.length) (fun t => us.getD t Go.undef) w (startSlots 0 os) { tmps := us.toArray ++ Array.replicate (fn.ntmps - us.toArray.size) Go.undef, defers := [] } := by
        refine ⟨⟨ab, ?_, fun t c k q => .inl ⟨t, c, q⟩⟩, rfl, ?_, GrowB.refl _ _, ?_⟩
        · show SRel w Oc (startSlots 0 os) (fun t => (us.toArray ++ Array.replicate (fn.ntmps - us.toArray.size) Go.undef).getD t Go.undef) ab
          rw [htm]; exact hS
        · simp; omega
        · intro t _
          exact congrFun htm t
      refine code_wp hN hOc hrec (io := ioSlots 0 (C.mode f)) (fun t ht => ht.1) c _ _ r w _ _ h hok.1.1 hFr fun e st' a w' he hf' => ?_
      have key : ∀ rs st2, resultsOf C.P fn.results.toList st' = some (rs, st2) → r = (rs, outsOf st2 0 (C.mode f)) → a.defers = [] ∧ ∃ v, (results fn a.tmps).run C.P w' = .ok v w' ∧ ∃ v', Ending.returned v = .returned v' ∧ Grow w w' ab ∧ CallOut w w' Oc ab us r.1 r.2 v' := by
        intro rs st2 hr1 hr2
        refine ⟨hf'.defers, ?_⟩
        obtain ⟨blk, hS', hB⟩ := hf'.ex
        obtain ⟨vs, blk2, pbs, m1, H⟩ := results_rep (act := a) hS' hr1
        have hrun := results_run (act := a) m1
        refine ⟨_, hrun, _, rfl, ⟨hf'.grow.os, hf'.grow.tape, hf'.grow.output, hf'.grow.size, fun k hk hno => hf'.grow.same k hk hno⟩, ?_⟩
        -- a frame with the arguments that may be changed, and the results
        let M := us.length
        let stH : Slots := (st2.mapv homeOnly).keep (List.range M)
        have hgetH : ∀ t, stH.get t = if t < M then homeOnly (st2.get t) else .dead := by
          intro t
          show ((st2.mapv homeOnly).keep (List.range M)).get t = _
          rw [get_keep, get_mapv _ rfl]
          simp only [List.mem_range]
        obtain ⟨blkH, k1, k2, k3⟩ := H.frame.weaken (st' := stH) (fun t => by
          rw [hgetH]
          split
          · cases st2.get t with
            | home o => exact .inl rfl
            | _ => exact .inr rfl
          · exact .inr rfl)
        have hpo : ∀ i c k, pbs i c = some k → ¬ Oc k ∧ k < w'.heap.size := by
          intro i c k q
          obtain ⟨t, c', q'⟩ := H.from_ i c k q
          exact hS'.out _ _ _ q'
        obtain ⟨st3, tm3, blk3, p1, p2, p3, p4, p5⟩ := put_results (Oc := Oc) (M := M) rs vs pbs stH (tmOf a) blkH M k1 H.len (fun t => by
            rw [hgetH]
            split
            · cases st2.get t <;> rfl
            · rfl) H.inj H.end_ hpo (fun i o u q q' => (H.rep i o u q q').move ⟨fun k _ hno => ⟨rfl, fun q => hno (by
              rcases q with ⟨t, c, q⟩ | q
              · exact .inl ⟨t, c, k2 _ _ _ q⟩
              · exact .inr q)⟩, fun _ _ => rfl⟩) (Nat.le_refl _)
        have hfrom : ∀ k, blk.has k → ab.has k ∨ w.heap.size ≤ k := by
          rintro k ⟨t, c, q⟩
          exact hB t c k q
        rw [hr2]
        refine ⟨⟨M, st3, tm3, blk3, p1, fun t c k q => ?_, Nat.le_refl _, fun i o q hne => ?_, fun j o q => p3 j o q, ?_⟩⟩
        · rcases p5 t c k q with ⟨t', c', q⟩ | ⟨i, c', q⟩
          · exact hfrom k ⟨_, _, H.sub _ _ _ (k2 _ _ _ q)⟩
          · exact hfrom k (H.from_ _ _ _ q)
        · have hg := outs_get q hne
          rw [Nat.zero_add] at hg
          obtain ⟨hio, hlt⟩ := outs_io q hne
          rw [Nat.zero_add] at hio
          have hlu : i < us.length := by omega
          obtain ⟨e1, e2⟩ := p2 i hlu
          refine ⟨?_, ?_, hlu⟩
          · rw [e1, hgetH, if_pos hlu, hg]; rfl
          · rw [e2]; exact hf'.kept i ⟨hio, hlu⟩
        · rw [← H.len]
          exact resultVal_list vs _ fun j u q => p4 j u q
      cases e with
      | normal =>
        simp only [finish] at he
        split at he
        · rename_i rs st2 hr
          cases he
          exact key rs st2 hr rfl
        · cases he
      | ret =>
        simp only [finish] at he
        split at he
        · rename_i rs st2 hr
          cases he
          exact key rs st2 hr rfl
        · cases he
      | exit id => simp [finish] at he

theorem CallOut.freeze1 {w w' : World} {Oc : Nat → Prop} {ab : Blk} {us : List Value} {pre rest outs : List OV} {o : OV} {pv : PV} {v : Value} (h : CallOut w w' Oc ab us (pre ++ o :: rest) outs v) (hv : o.pv = some pv) : CallOut w w' Oc ab us (pre ++ .flat (.val pv) :: rest) outs v := by
  obtain ⟨N, st, tm, ob, k1, k2, k3, k4, k5, k6⟩ := h.ex
  have hg : st.get (N + pre.length) = .home o := k5 _ _ (by simp)
  obtain ⟨blk', f1, f2, f3⟩ := freeze_place (e := ⟨N + pre.length, .home (.flat (.val pv)), .all⟩) k1 hg (c := none) (x := o) rfl hv rfl
  have hget : ∀ t o', t ≠ N + pre.length → st.get t = .home o' → ((⟨N + pre.length, .home (.flat (.val pv)), .all⟩ : Edit).on st).get t = .home o' := by
    intro t o' ht hgt
    rw [get_edit, if_neg ht]
    show ((Cut.all).on (N + pre.length) st).get t = .home o'
    rw [get_cut, hgt]
    rfl
  refine ⟨⟨N, _, tm, blk', f1, fun t c k hk => k2 t c k (f2 t c k hk).1, k3, fun i o' hi ho => ?_, fun j o' hj => ?_, by simpa using k6⟩⟩
  · obtain ⟨g1, g2, g3⟩ := k4 i o' hi ho
    exact ⟨hget i o' (by omega) g1, g2, g3⟩
  · by_cases hjp : j = pre.length
    · subst hjp
      simp at hj
      subst hj
      rw [get_edit, if_pos rfl]
    · refine hget _ _ (by omega) (k5 j o' ?_)
      rcases Nat.lt_or_gt_of_ne hjp with hlt | hgt
      · rw [List.getElem?_append_left hlt] at hj ⊢
        exact hj
      · rw [List.getElem?_append_right (by omega)] at hj ⊢
        have : j - pre.length = (j - pre.length - 1) + 1 := by omega
        rw [this] at hj ⊢
        simpa using hj
theorem CallOut.freeze {w w' : World} {Oc : Nat → Prop} {ab : Blk} {us : List Value} {outs : List OV} {v : Value} : ∀ (bs : List Bool) (pre rs : List OV), CallOut w w' Oc ab us (pre ++ rs) outs v → CallOut w w' Oc ab us (pre ++ frzR bs rs) outs v
  | true :: bs, pre, o :: rs, h => by
    simp only [frzR]
    have step : ∀ o', CallOut w w' Oc ab us (pre ++ o' :: rs) outs v → CallOut w w' Oc ab us (pre ++ o' :: frzR bs rs) outs v := fun o' h' => by
      have := CallOut.freeze bs (pre ++ [o']) rs (by simpa using h')
      simpa using this
    split
    · rename_i pv hp
      exact step _ (h.freeze1 hp)
    · exact step _ h
  | false :: bs, pre, o :: rs, h => by
    simp only [frzR]
    have := CallOut.freeze bs (pre ++ [o]) rs (by simpa using h)
    simpa using this
  | [], pre, rs, h => by
    cases rs <;> exact h
  | b :: bs, pre, [], h => by
    cases b <;> exact h
theorem CallSpec.freeze {P : Program} {f : FuncId} {os rs outs : List OV} (h : CallSpec P f os rs outs) (bs : List Bool) : CallSpec P f os (frzR bs rs) outs := by
  intro w Oc us ab h1 h2 h3
  refine (h w Oc us ab h1 h2 h3).mono fun e w' ⟨v, e1, e2, e3⟩ => ⟨v, e1, e2, ?_⟩
  exact CallOut.freeze bs [] rs e3

/-- Every call that the evaluator answers comes to that on the machine. -/
theorem pcall_spec (hN : namesOk C.P = true) (hprim : ∀ g p os rr, C.prim g = some p → p os = some rr → CallSpec C.P g os rr.1 rr.2) : ∀ (n : Nat) (f : FuncId) (os : List OV) (r : List OV × List OV), pcall C n f os = some r → CallSpec C.P f os r.1 r.2
  | 0, _, _, _, h => by cases h
  | n + 1, f, os, r, h => by
    simp only [pcall] at h
    split at h
    · rename_i p hp; exact hprim f p os r hp h
    · generalize hb : callBody C (pcall C n) n f os = b at h
      cases b with
      | none => cases h
      | some rr =>
        cases h
        exact (body_spec hN (pcall_spec hN hprim n) hb).freeze _
end
end Go.Ev

