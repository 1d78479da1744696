/- What the functions answer, and the laws. -/
import Derived.Test.YtnieankaikhmnaaE

set_option linter.unusedVariables false

set_option linter.unusedSimpArgs false

set_option linter.unusedSectionVars false

open Go Go.Ev Go.T14

set_option linter.unusedSimpArgs false

set_option linter.unusedVariables false

namespace Go.Proofs.Ytnieankaikhmnaa

/-! ### Delete -/
def delB (T : BT) (key : List UInt8) : BT := if has key T.flat = true then (match T with
  | ⟨0, es⟩ => ⟨0, wo 0 es key⟩
  | ⟨d + 1, bs⟩ => match (wo (d + 1) bs key : List (Tr d)) with
    | [b] => ⟨d, b⟩
    | l => ⟨d + 1, l⟩) else T
theorem list_one (n : Nat) (h : n = 1) : (((n : Nat) : Int) == (1 : Int)) = true := by subst h; rfl
theorem list_none (n : Nat) (h : n ≠ 1) : (((n : Nat) : Int) == (1 : Int)) = false := by
  have : ((n : Nat) : Int) ≠ 1 := by omega
  simpa using this
theorem s16 (N : Nat) (T : BT) (key : List UInt8) (ho : Okr T.d T.t) (hs : Sorted T.flat) (hc : T.flat.length ≤ 100000000) (hN : 1050 + T.d ≤ N) :
    pcall C N 16 [tBt T, vR key] = some ([vB (has key T.flat)], [tBt (delB T key), .flat .gone]) := by
  obtain ⟨d, t⟩ := T
  obtain ⟨n, rfl⟩ : ∃ n, N = n + 2 := ⟨N - 2, by omega⟩
  rw [pcall_step (by rfl) (by rfl), f16_btree_Tree_Delete_eq]
  unfold f16_btree_Tree_Delete
  dsimp only at ho hs hc hN ⊢
  change (flat d t).length ≤ _ at hc
  change Sorted (flat d t) at hs
  change _ = some ([vB (has key (flat d t))], _)
  have h26 := s26 (n + 1) d t key ho hs (by omega)
  cases hh : has key (flat d t) with
  | false =>
    have hd : delB ⟨d, t⟩ key = ⟨d, t⟩ := by unfold delB; exact if_neg (by show ¬ has key (flat d t) = true; rw [hh]; simp)
    rw [hh] at h26
    simp only [h26, callB_some, ok334, okOuts25, needB_true, List.headD_cons, List.tail_cons, fvF, pvF, toB_bool, Bool.not_false, ifB_t, cells_box, deref_ptr, hd]
  | true =>
    have h30 := s30 d (n + 1) t key ho hs hc hh (by omega)
    rw [hh] at h26
    cases d with
    | zero =>
      have hd : delB ⟨0, t⟩ key = ⟨0, wo 0 t key⟩ := by unfold delB; exact if_pos hh
      have cz : ((((([] : List PV).length : Nat) : Int)) == (1 : Int)) = false := rfl
      simp only [h26, callB_some, ok334, okOuts25, needB_true, List.headD_cons, List.tail_cons, fvF, pvF, toB_bool, Bool.not_true, ifB_f, cells_box, deref_ptr, h30, ok55, isS, hasT63, Bool.and_self, cells_pg, toL_sl, bsOf_zero, cz, hd]
    | succ d =>
      have hw := wo_all (d + 1) t key ho hs hh
      by_cases h1 : (wo (d + 1) t key : List (Tr d)).length = 1
      · obtain ⟨b, hb⟩ : ∃ b, (wo (d + 1) t key : List (Tr d)) = [b] := List.length_eq_one_iff.1 h1
        have hd : delB ⟨d + 1, t⟩ key = ⟨d, b⟩ := by
          unfold delB
          refine (if_pos hh).trans ?_
          dsimp only
          rw [hb]
        have c1 : (0 : Int) < (((List.map (enc d) [b]).length : Nat) : Int) := by simp
        have h0 : [b][0]? = some b := rfl
        have hbs : bsOf (d + 1) (wo (d + 1) t key) = List.map (enc d) [b] := by rw [bsOf_succ, hb]
        have cz : ((((List.map (enc d) [b]).length : Nat) : Int) == (1 : Int)) = true := rfl
        simp only [h26, callB_some, ok334, okOuts25, needB_true, List.headD_cons, List.tail_cons, fvF, pvF, toB_bool, Bool.not_true, ifB_f, ifB_t, cells_box, deref_ptr, h30, ok55, isS, hasT63, Bool.and_self, cells_pg, toL_sl, hbs, cz, c1, decide_true, nthP_map (enc d) h0, hasT55e, deref_enc, hd]
      · have hd : delB ⟨d + 1, t⟩ key = ⟨d + 1, wo (d + 1) t key⟩ := by
          unfold delB
          refine (if_pos hh).trans ?_
          dsimp only
          split
          · rename_i b hb; rw [hb] at h1; exact absurd rfl h1
          · rfl
        have cz : ((((List.map (enc d) (wo (d + 1) t key : List (Tr d))).length : Nat) : Int) == (1 : Int)) = false := list_none _ (by rw [List.length_map]; exact h1)
        simp only [h26, callB_some, ok334, okOuts25, needB_true, List.headD_cons, List.tail_cons, fvF, pvF, toB_bool, Bool.not_true, ifB_f, ifB_t, cells_box, deref_ptr, h30, ok55, isS, hasT63, Bool.and_self, cells_pg, toL_sl, bsOf_succ, cz, hd]

/-! ### what stays true of a tree -/
structure Inv (m : Nat) (T : BT) : Prop where
  okr : Okr T.d T.t
  sorted : Sorted T.flat
  short : Short big T.flat
  len : T.flat.length ≤ m
theorem putB_flat {T : BT} {e : Ent} (ho : Okr T.d T.t) (hs : Sorted T.flat) : (putB T e).flat = insL e T.flat ∧ Okr (putB T e).d (putB T e).t := by
  obtain ⟨d, t⟩ := T
  have hf := put_flat d t e ho hs
  rcases put_ok d t e ho hs with ⟨x, hx, h1, _⟩ | ⟨x, y, hx, h1, h2⟩
  · have hp : putB ⟨d, t⟩ e = ⟨d, x⟩ := by unfold putB; rw [hx]
    rw [hx] at hf
    rw [hp]
    refine ⟨?_, h1⟩
    show flat d x = insL e (flat d t)
    rw [← hf]; simp
  · have hp : putB ⟨d, t⟩ e = ⟨d + 1, [x, y]⟩ := by unfold putB; rw [hx]
    rw [hx] at hf
    rw [hp]
    exact ⟨hf, by show 2 ≤ [x, y].length; simp, by show [x, y].length ≤ 4; simp, by
      intro b hb
      rcases List.mem_cons.1 hb with rfl | hb
      · exact h1
      · rw [List.mem_singleton.1 hb]; exact h2⟩
theorem delB_flat {T : BT} {k : List UInt8} (ho : Okr T.d T.t) (hs : Sorted T.flat) : (delB T k).flat = delL k T.flat ∧ Okr (delB T k).d (delB T k).t := by
  obtain ⟨d, t⟩ := T
  cases hh : has k (flat d t) with
  | false =>
    have hd : delB ⟨d, t⟩ k = ⟨d, t⟩ := by unfold delB; exact if_neg (by show ¬ has k (flat d t) = true; rw [hh]; simp)
    rw [hd]
    exact ⟨(delL_none hh).symm, ho⟩
  | true =>
    obtain ⟨w1, w2, _⟩ := wo_all d t k ho hs hh
    cases d with
    | zero =>
      have hd : delB ⟨0, t⟩ k = ⟨0, wo 0 t k⟩ := by unfold delB; exact if_pos hh
      rw [hd]
      exact ⟨w1, w2⟩
    | succ d =>
      by_cases h1 : (wo (d + 1) t k : List (Tr d)).length = 1
      · obtain ⟨b, hb⟩ : ∃ b, (wo (d + 1) t k : List (Tr d)) = [b] := List.length_eq_one_iff.1 h1
        have hd : delB ⟨d + 1, t⟩ k = ⟨d, b⟩ := by
          unfold delB
          refine (if_pos hh).trans ?_
          dsimp only
          rw [hb]
        rw [hd]
        rw [hb] at w1 w2
        refine ⟨?_, okp_okr (w2.2.2 b (by simp))⟩
        show flat d b = _
        have : flat (d + 1) [b] = flat d b := by rw [flat_succ]; simp
        rw [← this]; exact w1
      · have hd : delB ⟨d + 1, t⟩ k = ⟨d + 1, wo (d + 1) t k⟩ := by
          unfold delB
          refine (if_pos hh).trans ?_
          dsimp only
          split
          · rename_i b hb; rw [hb] at h1; exact absurd rfl h1
          · rfl
        rw [hd]
        exact ⟨w1, by have := w2.1; show 2 ≤ (wo (d + 1) t k : List (Tr d)).length; omega, w2.2.1, w2.2.2⟩
theorem Inv.put {m : Nat} {T : BT} {e : Ent} (h : Inv m T) (hk : e.k.length ≤ big) (hv : e.v.length ≤ big) : Inv (m + 1) (putB T e) := by
  obtain ⟨h1, h2⟩ := putB_flat (e := e) h.okr h.sorted
  refine ⟨h2, by rw [h1]; exact insL_sorted h.sorted, ?_, ?_⟩
  · rw [h1]
    intro x hx
    rcases mem_insL.1 hx with rfl | ⟨hx, _⟩
    · exact ⟨hk, hv⟩
    · exact h.short x hx
  · rw [h1, insL_length h.sorted]
    have := h.len
    split <;> omega
theorem Inv.del {m : Nat} {T : BT} {k : List UInt8} (h : Inv m T) : Inv m (delB T k) := by
  obtain ⟨h1, h2⟩ := delB_flat (k := k) h.okr h.sorted
  refine ⟨h2, by rw [h1]; exact delL_sorted h.sorted, ?_, ?_⟩
  · rw [h1]
    exact fun x hx => h.short x (mem_delL.1 hx).1
  · rw [h1]
    exact Nat.le_trans delL_len h.len
theorem Inv.mono {m n : Nat} {T : BT} (h : Inv m T) (hmn : m ≤ n) : Inv n T := ⟨h.okr, h.sorted, h.short, Nat.le_trans h.len hmn⟩
theorem deep_of {m : Nat} {T : BT} (h : Inv m T) (hm : m ≤ 1000) : T.d ≤ 10 := by
  obtain ⟨d, t⟩ := T
  cases d with
  | zero => exact Nat.zero_le _
  | succ d =>
    have h1 := (okp_count (d + 1) t h.okr).1
    have h2 : (flat (d + 1) t).length ≤ m := h.len
    show d + 1 ≤ 10
    rcases Nat.lt_or_ge 10 (d + 1) with hd | hd
    · have : 2 ^ 10 ≤ 2 ^ (d + 1 + 1) := Nat.pow_le_pow_right (by decide) (by omega)
      have e : (2 : Nat) ^ 10 = 1024 := by decide
      omega
    · exact hd
theorem Inv.good {m : Nat} {T : BT} (h : Inv m T) (hm : m ≤ 1000) : T14.Good T.d T.t := ⟨h.sorted, h.okr, h.short, deep_of h hm⟩

/-! ### Range and Pages -/
theorem s10 (n : Nat) {m : Nat} {T : BT} (s : Sp) (h : Inv m T) (hm : m ≤ 1000) : pcall C (n + 1) 10 [tBt T, .flat (.val (.agg [.sl none (bb s.f), .sl none (bb s.t), .bool s.e]))] = some ([vEs (rangeL s T.flat)], [tBt T]) := by
  rw [pcall_prim (p := T14.primRange) (by rfl)]
  have := primRange_eq s (h.good hm)
  rw [enc_eq] at this
  exact this
theorem s21 (n : Nat) {m : Nat} {T : BT} (h : Inv m T) (hm : m ≤ 1000) : pcall C (n + 1) 21 [tBt T] = some ([.flat (.val (.sl none ((leaves T.d T.t).map fun l => .sl (some 2) (l.map entV))))], [tBt T]) := by
  rw [pcall_prim (p := T14.primPages) (by rfl)]
  have := primPages_eq (h.good hm)
  rw [enc_eq] at this
  exact this

/-! ### In and Same -/
theorem s11 (n : Nat) (s : Sp) (k : List UInt8) : pcall C (n + 1) 11 [.flat (.val (.agg [.sl none (bb s.f), .sl none (bb s.t), .bool s.e])), vR k] = some ([vB (inSp s k)], []) := by
  rw [pcall_step (by rfl) (by rfl), f11_vestryref14_In_eq]
  unfold f11_vestryref14_In inSp
  simp only [bb_isByte, bb_u8, needB_true]
  cases Op.bytesLess k s.f <;> cases s.e <;> simp only [Bool.not_true, Bool.not_false, ifB_t, ifB_f, Bool.true_and, Bool.false_and, Bool.true_or, Bool.false_or]
theorem ent_ext {a b : Ent} : a = b ↔ a.k = b.k ∧ a.v = b.v := by
  cases a; cases b; simp
theorem same_loop (rec : Rec) (n : Nat) (a b : List Ent) (hab : a.length = b.length) (hl : a.length ≤ 1000000) : ∀ (m i : Nat), i ≤ a.length → a.length - i < m →
    f12_vestryref04_Same.l0 rec n m (a.map entV) (b.map entV) (i : Int) = some ([vB (decide (a.drop i = b.drop i))], [])
  | 0, i, _, h => by omega
  | m + 1, i, hi, h => by
    show f12_vestryref04_Same.l0.step _ _ (f12_vestryref04_Same.l0 _ _ m) _ _ _ = _
    unfold f12_vestryref04_Same.l0.step
    by_cases hlt : i < a.length
    · have hlt' : i < b.length := by omega
      have hx : a[i]? = some a[i] := List.getElem?_eq_getElem hlt
      have hy : b[i]? = some b[i] := List.getElem?_eq_getElem hlt'
      have hda : a.drop i = a[i] :: a.drop (i + 1) := List.drop_eq_getElem_cons hlt
      have hdb : b.drop i = b[i] :: b.drop (i + 1) := List.drop_eq_getElem_cons hlt'
      rw [hda, hdb]
      generalize a[i] = x at hx hda ⊢
      generalize b[i] = y at hy hdb ⊢
      have c1 : (i : Int) < (((a.map entV).length : Nat) : Int) := by rw [List.length_map]; omega
      have c2 : (0 : Int) ≤ (i : Int) := by omega
      have c3 : (i : Int) < (((b.map entV).length : Nat) : Int) := by rw [List.length_map]; omega
      have w2 : IntKind.wrap .i64 ((i : Int) + 1) = ((i + 1 : Nat) : Int) := wrap_succ (by omega)
      simp only [c1, c2, c3, decide_true, ifB_t, needB_true, Int.toNat_natCast, nthP_map entV hx, nthP_map entV hy, hasT33e, cells_ent, List.headD_cons, List.tail_cons, toL_sl, bb_isByte, bb_u8, w2]
      by_cases hk : x.k = y.k
      · by_cases hv : x.v = y.v
        · have e : x = y := ent_ext.2 ⟨hk, hv⟩
          subst e
          simp only [beq_self_eq_true, Bool.not_true, ifB_f]
          rw [same_loop rec n a b hab hl m (i + 1) hlt (by omega)]
          simp
        · have e : ¬ x = y := fun e => hv (by rw [e])
          have hv' : (x.v == y.v) = false := by simpa using hv
          have hk' : (x.k == y.k) = true := by simpa using hk
          have hne : ¬ (x :: List.drop (i + 1) a = y :: List.drop (i + 1) b) := fun q => e (List.cons.inj q).1
          simp only [hk', hv', Bool.not_true, Bool.not_false, ifB_f, ifB_t, hne, decide_false]
      · have e : ¬ x = y := fun e => hk (by rw [e])
        have hk' : (x.k == y.k) = false := by simpa using hk
        have hne : ¬ (x :: List.drop (i + 1) a = y :: List.drop (i + 1) b) := fun q => e (List.cons.inj q).1
        simp only [hk', Bool.not_false, ifB_t, hne, decide_false]
    · have c1 : ¬ ((i : Int) < (((a.map entV).length : Nat) : Int)) := by rw [List.length_map]; omega
      have e1 : a.drop i = [] := List.drop_eq_nil_iff.2 (by omega)
      have e2 : b.drop i = [] := List.drop_eq_nil_iff.2 (by omega)
      simp only [c1, decide_false, ifB_f, e1, e2, decide_true]
theorem s12 (N : Nat) (a b : List Ent) (hl : a.length ≤ 1000000) (hN : a.length + 5 ≤ N) : pcall C N 12 [vEs a, vEs b] = some ([vB (decide (a = b))], []) := by
  obtain ⟨n, rfl⟩ : ∃ n, N = n + 1 := ⟨N - 1, by omega⟩
  rw [pcall_step (by rfl) (by rfl), f12_vestryref04_Same_eq]
  unfold f12_vestryref04_Same f12_vestryref04_Same.pre
  by_cases hab : a.length = b.length
  · have c : ((((a.map entV).length : Nat) : Int) != (((b.map entV).length : Nat) : Int)) = false := by simp [hab]
    have := same_loop (pcall C n) n a b hab hl n 0 (Nat.zero_le _) (by omega)
    rw [List.drop_zero, List.drop_zero, show ((0 : Nat) : Int) = (0 : Int) from rfl] at this
    simp only [c, ifB_f, this]
  · have c : ((((a.map entV).length : Nat) : Int) != (((b.map entV).length : Nat) : Int)) = true := by
      simp only [List.length_map, bne_iff_ne]; omega
    have hne : ¬ a = b := fun e => hab (by rw [e])
    simp only [c, ifB_t, hne, decide_false]
end Go.Proofs.Ytnieankaikhmnaa

open Go Go.Ev Go.T14

set_option linter.unusedSimpArgs false

set_option linter.unusedVariables false

namespace Go.Proofs.Ytnieankaikhmnaa

/-! ### made -/
structure AN where
  d : Int
  k : List UInt8
  v : List UInt8
  s : Sp
def actV (a : AN) : PV := .agg [.int .i64 a.d, .sl none (bb a.k), .sl none (bb a.v), .sl none (bb a.s.f), .sl none (bb a.s.t), .bool a.s.e]
def ShortA (l : List AN) : Prop := ∀ a ∈ l, a.k.length ≤ big ∧ a.v.length ≤ big
abbrev vAs (l : List AN) : OV := .flat (.val (.sl (some 6) (l.map actV)))
theorem hasT46 (a : AN) : hasT Try.prog 46 (actV a) = true := by kernel_rfl
theorem cells_act (a : AN) : PV.cells (actV a) = [.int .i64 a.d, .sl none (bb a.k), .sl none (bb a.v), .sl none (bb a.s.f), .sl none (bb a.s.t), .bool a.s.e] := rfl
theorem okOuts255 (v : PV) : okOuts Try.prog [25, 23, 23] [.io (.b [false]), .ro, .ro] [.cont .box [.val (.ptr (some 3) v)], .flat .gone, .flat .gone] = true := by kernel_rfl
theorem okOuts1 (v : PV) : okOuts Try.prog [25] [.io (.b [false])] [.cont .box [.val (.ptr (some 3) v)]] = true := by kernel_rfl
theorem okOuts30 (v : PV) : okOuts Try.prog [25, 30] [.io (.b [false]), .ro] [.cont .box [.val (.ptr (some 3) v)]] = true := by kernel_rfl
theorem ok25b (v : PV) : okOs Try.prog [25] [.b [false]] [.cont .box [.val (.ptr (some 3) v)]] = true := by kernel_rfl
theorem ok234 (l : List UInt8) (b : Bool) : okOs Try.prog [23, 4] [.o, .v] [vO l, vB b] = true := by
  show (okO Try.prog 23 .o (vO l) && true) = true
  rw [okO23]; rfl
theorem ok27v (l : List PV) : okOs Try.prog [27] [] [.flat (.val (.sl (some 2) l))] = true := by kernel_rfl
theorem inv0 : Inv 0 ⟨0, []⟩ := ⟨by show 0 ≤ 4; omega, List.Pairwise.nil, fun e he => (by cases he), Nat.le_refl _⟩
theorem s15' {N m : Nat} {T : BT} {e : Ent} (h : Inv m T) (hm : m ≤ 1000) (hk : e.k.length ≤ big) (hv : e.v.length ≤ big) (hN : 1100 ≤ N) : pcall C N 15 [tBt T, vR e.k, vR e.v] = some ([vB (has e.k T.flat)], [tBt (putB T e), .flat .gone, .flat .gone]) :=
  s15 N T e h.okr h.sorted (by have := h.len; omega) hk hv (by have := deep_of h hm; omega)
theorem s16' {N m : Nat} {T : BT} (k : List UInt8) (h : Inv m T) (hm : m ≤ 1000) (hN : 1100 ≤ N) : pcall C N 16 [tBt T, vR k] = some ([vB (has k T.flat)], [tBt (delB T k), .flat .gone]) :=
  s16 N T k h.okr h.sorted (by have := h.len; omega) (by have := deep_of h hm; omega)
theorem s13' {N m : Nat} {T : BT} (k : List UInt8) (h : Inv m T) (hm : m ≤ 1000) (hN : 1100 ≤ N) : pcall C N 13 [tBt T, vR k] = some ([vO (fnd k T.flat).v, vB (has k T.flat)], [tBt T, .flat .gone]) :=
  s13 N T.d T.t k h.okr h.sorted h.short (by have := deep_of h hm; omega)
theorem s14' (n : Nat) (T : BT) : pcall C (n + 1) 14 [tBt T] = some ([vI (T.flat.length : Int)], [tBt T]) := s14 n T.d T.t
theorem s22' {N m : Nat} {T : BT} (h : Inv m T) (hm : m ≤ 1000) (hN : 1100 ≤ N) : pcall C N 22 [tBt T] = some ([vI ((T.d + 1 : Nat) : Int)], [tBt T]) :=
  s22 N T.d T.t h.okr (by have := deep_of h hm; omega) (by have := deep_of h hm; omega)
theorem s18' (n : Nat) (T : BT) : pcall C (n + 1) 18 [tBt T] = some ([tBt T], [tBt T]) := s18 n T.d T.t
/-- An act on a tree. -/
def stepB (T : BT) (a : AN) : BT :=
  if a.d = 0 then putB T ⟨a.k, a.v⟩ else if a.d = 1 then delB T a.k else T
theorem Inv.step {m : Nat} {T : BT} {a : AN} (h : Inv m T) (hk : a.k.length ≤ big) (hv : a.v.length ≤ big) : Inv (m + 1) (stepB T a) := by
  unfold stepB
  split
  · exact h.put hk hv
  · split
    · exact h.del.mono (by omega)
    · exact h.mono (by omega)
theorem made_loop (N n : Nat) (hN : 1100 ≤ N) (acts : List AN) (hA : ShortA acts) (hl : acts.length ≤ 100000000) : ∀ (m i : Nat) (T : BT), i ≤ 80 → i ≤ acts.length → Inv i T → 80 - i < m →
    ∃ T', Inv 80 T' ∧ f9_vestrylaw14_made.l0 (pcall C N) n m (acts.map actV) (pgOf T.d T.t) (i : Int) = some ([tBt T'], [])
  | 0, i, _, _, _, _, h => by omega
  | m + 1, i, T, hi, hil, hT, h => by
    show ∃ T', Inv 80 T' ∧ f9_vestrylaw14_made.l0.step _ _ (f9_vestrylaw14_made.l0 _ _ m) _ _ _ = _
    unfold f9_vestrylaw14_made.l0.step
    by_cases hlt : i < acts.length
    · by_cases h80 : i < 80
      · have hx : acts[i]? = some acts[i] := List.getElem?_eq_getElem hlt
        have hmem : acts[i] ∈ acts := List.getElem_mem hlt
        generalize acts[i] = a at hx hmem
        obtain ⟨hk, hv⟩ := hA a hmem
        obtain ⟨T', hT', he⟩ := made_loop N n hN acts hA hl m (i + 1) (stepB T a) (by omega) (by omega) (hT.step hk hv) (by omega)
        refine ⟨T', hT', ?_⟩
        have c1 : (i : Int) < (((acts.map actV).length : Nat) : Int) := by rw [List.length_map]; omega
        have c2 : (0 : Int) ≤ (i : Int) := by omega
        have c3 : ((i : Int) < (80 : Int)) := by omega
        have w2 : IntKind.wrap .i64 ((i : Int) + 1) = ((i + 1 : Nat) : Int) := wrap_succ (by omega)
        have h15 := s15' (N := N) (e := ⟨a.k, a.v⟩) hT (by omega) hk hv hN
        by_cases h0 : a.d = 0
        · have e0 : (a.d == (0 : Int)) = true := by simpa using h0
          have e1 : (a.d == (1 : Int)) = false := by rw [h0]; rfl
          have est : stepB T a = putB T ⟨a.k, a.v⟩ := if_pos h0
          rw [est] at he
          simp only [c1, c2, c3, decide_true, ifB_t, ifB_f, needB_true, Int.toNat_natCast, nthP_map actV hx, hasT46, cells_act, List.headD_cons, List.tail_cons, toI_int, toL_sl, e0, e1, h15, callB_some, ok4, okOuts255, cells_box, pvF, deref_ptr, w2, he]
        · have e0 : (a.d == (0 : Int)) = false := by simpa using h0
          by_cases h1 : a.d = 1
          · have e1 : (a.d == (1 : Int)) = true := by simpa using h1
            have est : stepB T a = delB T a.k := (if_neg h0).trans (if_pos h1)
            have h16 := s16' (N := N) a.k hT (by omega) hN
            rw [est] at he
            simp only [c1, c2, c3, decide_true, ifB_t, ifB_f, needB_true, Int.toNat_natCast, nthP_map actV hx, hasT46, cells_act, List.headD_cons, List.tail_cons, toI_int, toL_sl, e0, e1, h16, callB_some, ok4, okOuts25, cells_box, pvF, deref_ptr, w2, he]
          · have e1 : (a.d == (1 : Int)) = false := by simpa using h1
            have est : stepB T a = T := (if_neg h0).trans (if_neg h1)
            rw [est] at he
            simp only [c1, c2, c3, decide_true, ifB_t, ifB_f, needB_true, Int.toNat_natCast, nthP_map actV hx, hasT46, cells_act, List.headD_cons, List.tail_cons, toI_int, toL_sl, e0, e1, w2, he]
      · have c1 : (i : Int) < (((acts.map actV).length : Nat) : Int) := by rw [List.length_map]; omega
        have c3 : ¬ ((i : Int) < (80 : Int)) := by omega
        exact ⟨T, hT.mono hi, by simp only [c1, c3, decide_true, decide_false, ifB_t, ifB_f]⟩
    · have c1 : ¬ ((i : Int) < (((acts.map actV).length : Nat) : Int)) := by rw [List.length_map]; omega
      exact ⟨T, hT.mono hi, by simp only [c1, decide_false, ifB_f]⟩
theorem s9 (N : Nat) (acts : List AN) (hA : ShortA acts) (hl : acts.length ≤ 100000000) (hN : 1200 ≤ N) : ∃ T, Inv 80 T ∧ pcall C N 9 [vAs acts] = some ([tBt T], []) := by
  obtain ⟨n, rfl⟩ : ∃ n, N = n + 3 := ⟨N - 3, by omega⟩
  rw [pcall_step (by rfl) (by rfl), f9_vestrylaw14_made_eq]
  unfold f9_vestrylaw14_made f9_vestrylaw14_made.pre
  obtain ⟨T, hT, he⟩ := made_loop (n + 2) (n + 2) (by omega) acts hA hl (n + 2) 0 ⟨0, []⟩ (Nat.zero_le _) (Nat.zero_le _) inv0 (by omega)
  refine ⟨T, hT, ?_⟩
  rw [show ((0 : Nat) : Int) = (0 : Int) from rfl] at he
  simp only [s17, callB_some, ok25b, needB_true, List.headD_cons, cells_box, pvF, deref_ptr, he]

/-! ### small -/
def smallT : Nat → BT
  | 0 => ⟨0, []⟩
  | i + 1 => putB (smallT i) ⟨[UInt8.ofNat (97 + i)], [118]⟩
theorem small_inv : ∀ i, Inv i (smallT i)
  | 0 => inv0
  | i + 1 => (small_inv i).put (by show 1 ≤ big; decide) (by show 1 ≤ big; decide)
theorem small_has : ∀ i, i < 5 → has [UInt8.ofNat (97 + i)] (smallT i).flat = false
  | 0, _ => by decide
  | 1, _ => by decide
  | 2, _ => by decide
  | 3, _ => by decide
  | 4, _ => by decide
  | i + 5, h => by omega
theorem small_key : ∀ i, i < 5 → [PV.int .u8 (IntKind.wrap .u8 (IntKind.wrap .i64 ((97 : Int) + ((i : Nat) : Int))))] = bb [UInt8.ofNat (97 + i)]
  | 0, _ => by kernel_rfl
  | 1, _ => by kernel_rfl
  | 2, _ => by kernel_rfl
  | 3, _ => by kernel_rfl
  | 4, _ => by kernel_rfl
  | i + 5, h => by omega
theorem small_step (N n m i : Nat) (hi : i < 5) (hN : 1100 ≤ N) :
    f8_vestrylaw14_small.l0 (pcall C N) n (m + 1) (pgOf (smallT i).d (smallT i).t) (i : Int) = f8_vestrylaw14_small.l0 (pcall C N) n m (pgOf (smallT (i + 1)).d (smallT (i + 1)).t) ((i + 1 : Nat) : Int) := by
  show f8_vestrylaw14_small.l0.step _ _ (f8_vestrylaw14_small.l0 _ _ m) _ _ = _
  unfold f8_vestrylaw14_small.l0.step
  have h15 := s15' (N := N) (e := ⟨[UInt8.ofNat (97 + i)], [118]⟩) (small_inv i) (by omega) (by show 1 ≤ big; decide) (by show 1 ≤ big; decide) hN
  rw [small_has i hi] at h15
  have e118 : [PV.int .u8 (118 : Int)] = bb [118] := by kernel_rfl
  have b : Nat.blt 0 (bb [118]).length = true := rfl
  have c1 : ((i : Int) < (5 : Int)) := by omega
  have w2 : IntKind.wrap .i64 ((i : Int) + 1) = ((i + 1 : Nat) : Int) := wrap_succ (by omega)
  simp only [c1, decide_true, ifB_t, e118, b, needB_true, small_key i hi, h15, callB_some, ok4, okOuts255, List.headD_cons, fvF, pvF, toB_bool, ifB_f, cells_box, deref_ptr, w2]
  rfl
theorem small5 : (smallT 5).flat = [⟨[97], [118]⟩, ⟨[98], [118]⟩, ⟨[99], [118]⟩, ⟨[100], [118]⟩, ⟨[101], [118]⟩] ∧ (smallT 5).d = 1 := ⟨by decide +kernel, by decide +kernel⟩
theorem s8 (N : Nat) (hN : 1200 ≤ N) : pcall C N 8 [] = some ([vB true], []) := by
  obtain ⟨n, rfl⟩ : ∃ n, N = n + 20 := ⟨N - 20, by omega⟩
  rw [pcall_step (by rfl) (by rfl), f8_vestrylaw14_small_eq]
  unfold f8_vestrylaw14_small f8_vestrylaw14_small.pre
  have hst := fun m i hi => small_step (n + 19) (n + 19) m i hi (by omega)
  have e0 : ((0 : Nat) : Int) = (0 : Int) := rfl
  have h0 := hst (n + 18) 0 (by omega)
  rw [e0] at h0
  have hp : pgOf (smallT 0).d (smallT 0).t = pgOf 0 [] := rfl
  rw [hp] at h0
  simp only [s17, callB_some, ok25b, needB_true, List.headD_cons, cells_box, pvF, deref_ptr]
  rw [h0, hst (n + 17) 1 (by omega), hst (n + 16) 2 (by omega), hst (n + 15) 3 (by omega), hst (n + 14) 4 (by omega)]
  show f8_vestrylaw14_small.l0.step _ _ (f8_vestrylaw14_small.l0 _ _ (n + 13)) _ _ = _
  unfold f8_vestrylaw14_small.l0.step
  have hv := small_inv 5
  obtain ⟨hf, hd⟩ := small5
  have c1 : ¬ (((4 + 1 : Nat) : Int) < (5 : Int)) := by omega
  have e98 : [PV.int .u8 (98 : Int)] = bb [98] := by kernel_rfl
  have e99 : [PV.int .u8 (99 : Int)] = bb [99] := by kernel_rfl
  have e100 : [PV.int .u8 (100 : Int)] = bb [100] := by kernel_rfl
  have b1 : Nat.blt 0 (bb [98]).length = true := rfl
  have b2 : Nat.blt 0 (bb [99]).length = true := rfl
  have b3 : Nat.blt 0 (bb [100]).length = true := rfl
  have h10 := s10 (n + 18) ⟨[98], [100], true⟩ hv (by omega)
  have h13 := s13' (N := n + 19) [99] hv (by omega) (by omega)
  have h14 := s14' (n + 18) (smallT 5)
  have h22 := s22' (N := n + 19) hv (by omega) (by omega)
  rw [hf] at h10 h13 h14
  rw [hd] at h22
  have hr : rangeL ⟨[98], [100], true⟩ [⟨[97], [118]⟩, ⟨[98], [118]⟩, ⟨[99], [118]⟩, ⟨[100], [118]⟩, ⟨[101], [118]⟩] = [⟨[98], [118]⟩, ⟨[99], [118]⟩] := by decide +kernel
  have hg : fnd [99] [⟨[97], [118]⟩, ⟨[98], [118]⟩, ⟨[99], [118]⟩, ⟨[100], [118]⟩, ⟨[101], [118]⟩] = ⟨[99], [118]⟩ := by decide +kernel
  have hh : has [99] [⟨[97], [118]⟩, ⟨[98], [118]⟩, ⟨[99], [118]⟩, ⟨[100], [118]⟩, ⟨[101], [118]⟩] = true := by decide +kernel
  have h5 : ((([⟨[97], [118]⟩, ⟨[98], [118]⟩, ⟨[99], [118]⟩, ⟨[100], [118]⟩, ⟨[101], [118]⟩] : List Ent).length : Int) == (5 : Int)) = true := rfl
  have h2 : (((1 + 1 : Nat) : Int) == (2 : Int)) = true := rfl
  rw [hr] at h10
  rw [hg, hh] at h13
  have l2 : ((((List.map entV [⟨[98], [118]⟩, ⟨[99], [118]⟩]).length : Nat) : Int) == (2 : Int)) = true := rfl
  have l3 : (0 : Int) < (((List.map entV [⟨[98], [118]⟩, ⟨[99], [118]⟩]).length : Nat) : Int) := by simp
  have hx : ([⟨[98], [118]⟩, ⟨[99], [118]⟩] : List Ent)[0]? = some ⟨[98], [118]⟩ := rfl
  have q1 : (([98] : List UInt8) == ([98] : List UInt8)) = true := rfl
  have q2 : (([118] : List UInt8) == ([118] : List UInt8)) = true := rfl
  simp only [c1, decide_false, ifB_f, e98, e99, e100, b1, b2, b3, needB_true, h10, callB_some, ok27v, okOuts30, List.headD_cons, List.tail_cons, cells_box, pvF, fvF, deref_ptr, h13, ok234, okOuts25, h14, ok3, okOuts1, toI_int, h5, ifB_t, h22, h2, toL_sl, l2, l3, decide_true, nthP_map entV hx, hasT33e, cells_ent, bb_isByte, bb_u8, q1, q2, toB_bool, xsO]
end Go.Proofs.Ytnieankaikhmnaa

open Go Go.Ev Go.T14

set_option linter.unusedSimpArgs false

set_option linter.unusedVariables false

namespace Go.Proofs.Ytnieankaikhmnaa

/-! ### BtreeRanges -/
theorem rangeL_append (s : Sp) (a b : List Ent) : rangeL s (a ++ b) = rangeL s a ++ rangeL s b := List.filter_append ..
theorem rangeL_pos {s : Sp} {a : Ent} {l : List Ent} (h : inSp s a.k = true) : rangeL s (a :: l) = a :: rangeL s l := by
  unfold rangeL; rw [List.filter_cons, if_pos h]
theorem rangeL_neg {s : Sp} {a : Ent} {l : List Ent} (h : inSp s a.k = false) : rangeL s (a :: l) = rangeL s l := by
  unfold rangeL; rw [List.filter_cons, if_neg (by rw [h]; simp)]
theorem rangeL_empty {f t : List UInt8} (l : List Ent) (h : Op.bytesLess f t = false) : rangeL ⟨f, t, true⟩ l = [] := filter_none fun x _ => by
  unfold inSp
  cases h1 : Op.bytesLess x.k f with
  | true => rfl
  | false =>
    simp only [Bool.not_false, Bool.not_true, Bool.false_or, Bool.true_and]
    exact nless_trans h h1
/-- Two ranges, one behind the other. -/
theorem range_join {f m t : List UInt8} (hfm : Op.bytesLess m f = false) (hmt : Op.bytesLess t m = false) : ∀ {l : List Ent}, Sorted l → rangeL ⟨f, m, true⟩ l ++ rangeL ⟨m, t, true⟩ l = rangeL ⟨f, t, true⟩ l
  | [], _ => rfl
  | a :: l, hs => by
    obtain ⟨h1, h2⟩ := Sorted.cons_iff.1 hs
    have ih := range_join hfm hmt h2
    cases hf : Op.bytesLess a.k f with
    | true =>
      have hm : Op.bytesLess a.k m = true := less_nless hf hfm
      rw [rangeL_neg (s := ⟨f, m, true⟩) (by simp [inSp, hf]), rangeL_neg (s := ⟨m, t, true⟩) (by simp [inSp, hm]), rangeL_neg (s := ⟨f, t, true⟩) (by simp [inSp, hf])]
      exact ih
    | false =>
      cases hm : Op.bytesLess a.k m with
      | true =>
        have ht : Op.bytesLess a.k t = true := less_nless hm hmt
        rw [rangeL_pos (s := ⟨f, m, true⟩) (by simp [inSp, hf, hm]), rangeL_neg (s := ⟨m, t, true⟩) (by simp [inSp, hm]), rangeL_pos (s := ⟨f, t, true⟩) (by simp [inSp, hf, ht]), List.cons_append, ih]
      | false =>
        have hn := lt_none h1 hm
        have e1 : rangeL ⟨f, m, true⟩ (a :: l) = [] := filter_none fun x hx => by
          rcases List.mem_cons.1 hx with rfl | hx
          · simp [inSp, hm]
          · simp [inSp, hn x hx]
        rw [e1, List.nil_append]
        refine List.filter_congr fun x hx => ?_
        have hxm : Op.bytesLess x.k m = false := by
          rcases List.mem_cons.1 hx with rfl | hx
          · exact hm
          · exact hn x hx
        have hxf : Op.bytesLess x.k f = false := nless_trans hfm hxm
        simp [inSp, hxm, hxf]
theorem ranges_loop (N n : Nat) (hN : 2000 ≤ N) (f t : List UInt8) (L a b : List Ent) (hL : L.length ≤ 1000) (ha : a.length ≤ 1000) (hb : b.length ≤ 1000) (hab : a ++ b = rangeL ⟨f, t, true⟩ L) : ∀ (m i : Nat), i ≤ L.length → L.length - i < m →
    f3_vestrylaw14_BtreeRanges.l0 (pcall C N) n m (bb f) (bb t) (a.map entV) (b.map entV) ((rangeL ⟨f, t, true⟩ L).map entV) ((rangeL ⟨f, t, true⟩ (L.take i)).length : Int) (L.map entV) (i : Int) = some ([vB true], [])
  | 0, i, _, h => by omega
  | m + 1, i, hi, h => by
    show f3_vestrylaw14_BtreeRanges.l0.step _ _ (f3_vestrylaw14_BtreeRanges.l0 _ _ m) _ _ _ _ _ _ _ _ = _
    unfold f3_vestrylaw14_BtreeRanges.l0.step
    obtain ⟨N', rfl⟩ : ∃ N', N = N' + 1 := ⟨N - 1, by omega⟩
    by_cases hlt : i < L.length
    · have hx : L[i]? = some L[i] := List.getElem?_eq_getElem hlt
      have hd : L = L.take i ++ (L[i] :: L.drop (i + 1)) := by
        rw [← List.drop_eq_getElem_cons hlt, List.take_append_drop]
      have htk : L.take (i + 1) = L.take i ++ [L[i]] := by
        rw [List.take_add_one, hx]; rfl
      generalize L[i] = e at hx hd htk
      have ih := ranges_loop (N' + 1) n hN f t L a b hL ha hb hab m (i + 1) hlt (by omega)
      rw [htk, rangeL_append] at ih
      have c1 : (i : Int) < (((L.map entV).length : Nat) : Int) := by rw [List.length_map]; omega
      have c2 : (0 : Int) ≤ (i : Int) := by omega
      have w2 : IntKind.wrap .i64 ((i : Int) + 1) = ((i + 1 : Nat) : Int) := wrap_succ (by omega)
      have h11 := s11 N' ⟨f, t, true⟩ e.k
      cases hin : inSp ⟨f, t, true⟩ e.k with
      | false =>
        rw [hin] at h11
        rw [rangeL_neg hin] at ih
        rw [show rangeL ⟨f, t, true⟩ [] = [] from rfl, List.append_nil] at ih
        simp only [c1, c2, decide_true, ifB_t, needB_true, Int.toNat_natCast, nthP_map entV hx, hasT33e, cells_ent, List.headD_cons, toL_sl, h11, callB_some, ok4, fvF, pvF, toB_bool, ifB_f, w2, ih]
      | true =>
        rw [hin] at h11
        rw [rangeL_pos hin, show rangeL ⟨f, t, true⟩ [] = [] from rfl] at ih
        have hc : rangeL ⟨f, t, true⟩ L = rangeL ⟨f, t, true⟩ (L.take i) ++ e :: rangeL ⟨f, t, true⟩ (L.drop (i + 1)) := by
          conv => lhs; rw [hd]
          rw [rangeL_append, rangeL_pos hin]
        have hcn : (rangeL ⟨f, t, true⟩ L)[(rangeL ⟨f, t, true⟩ (L.take i)).length]? = some e := by rw [hc]; exact at_split.1
        have hlc : (rangeL ⟨f, t, true⟩ (L.take i)).length < (rangeL ⟨f, t, true⟩ L).length := (List.getElem?_eq_some_iff.1 hcn).1
        have hll : (rangeL ⟨f, t, true⟩ L).length ≤ L.length := List.length_filter_le _ _
        have c3 : ¬ (((rangeL ⟨f, t, true⟩ (L.take i)).length : Int) ≥ ((((rangeL ⟨f, t, true⟩ L).map entV).length : Nat) : Int)) := by rw [List.length_map]; omega
        have c4 : (0 : Int) ≤ ((rangeL ⟨f, t, true⟩ (L.take i)).length : Int) := by omega
        have c5 : (((rangeL ⟨f, t, true⟩ (L.take i)).length : Int) < ((((rangeL ⟨f, t, true⟩ L).map entV).length : Nat) : Int)) := by rw [List.length_map]; omega
        have w3 : IntKind.wrap .i64 (((rangeL ⟨f, t, true⟩ (L.take i)).length : Int) + 1) = (((rangeL ⟨f, t, true⟩ (L.take i) ++ [e]).length : Nat) : Int) := by
          rw [List.length_append, List.length_singleton]; exact wrap_succ (by omega)
        simp only [c1, c2, decide_true, ifB_t, needB_true, Int.toNat_natCast, nthP_map entV hx, hasT33e, cells_ent, List.headD_cons, toL_sl, h11, callB_some, ok4, fvF, pvF, toB_bool, ifB_f, c3, decide_false, c4, c5, nthP_map entV hcn, bb_isByte, bb_u8, beq_self_eq_true, Bool.not_true, w3, w2, ih]
    · have c1 : ¬ ((i : Int) < (((L.map entV).length : Nat) : Int)) := by rw [List.length_map]; omega
      have e : L.take i = L := List.take_of_length_le (by omega)
      have c2 : (((rangeL ⟨f, t, true⟩ L).length : Int) == ((((rangeL ⟨f, t, true⟩ L).map entV).length : Nat) : Int)) = true := by rw [List.length_map]; simp
      have hll : (rangeL ⟨f, t, true⟩ L).length ≤ L.length := List.length_filter_le _ _
      have b1 : Nat.ble ((([] : List PV).length + (a.map entV).length) * 48) 140737488355328 = true := by rw [Nat.ble_eq, List.length_map, List.length_nil]; omega
      have b2 : Nat.ble (([] : List PV).length + (a.map entV).length) 9223372036854775807 = true := by rw [Nat.ble_eq, List.length_map, List.length_nil]; omega
      have b3 : Nat.ble ((([] ++ a.map entV).length + (b.map entV).length) * 48) 140737488355328 = true := by rw [Nat.ble_eq, List.nil_append, List.length_map, List.length_map]; omega
      have b4 : Nat.ble (([] ++ a.map entV).length + (b.map entV).length) 9223372036854775807 = true := by rw [Nat.ble_eq, List.nil_append, List.length_map, List.length_map]; omega
      have h12 : pcall C (N' + 1) 12 [.flat (.val (.sl (some 2) (([] ++ a.map entV) ++ b.map entV))), vEs (rangeL ⟨f, t, true⟩ L)] = some ([vB true], []) := by
        rw [List.nil_append, ← List.map_append, hab]
        have := s12 (N' + 1) (rangeL ⟨f, t, true⟩ L) (rangeL ⟨f, t, true⟩ L) (by omega) (by omega)
        simp only [decide_true] at this
        exact this
      simp only [c1, decide_false, ifB_f, e, c2, ifB_t, b1, b2, b3, b4, needB_true, h12, callB_some, ok4, List.headD_cons, fvF, pvF, toB_bool]
theorem rangeL_len (s : Sp) (l : List Ent) : (rangeL s l).length ≤ l.length := List.length_filter_le _ _
theorem s3 (acts : List AN) (f mid t : List UInt8) (hA : ShortA acts) (hl : acts.length ≤ 100000000) : pcall C 3000 3 [vAs acts, vR f, vR mid, vR t] = some ([vB true], []) := by
  rw [pcall_step (n := 2999) (by rfl) (by rfl), f3_vestrylaw14_BtreeRanges_eq]
  unfold f3_vestrylaw14_BtreeRanges f3_vestrylaw14_BtreeRanges.pre
  have h8 := s8 2999 (by omega)
  obtain ⟨T, hT, h9⟩ := s9 2999 acts hA hl (by omega)
  have r10 := fun s => s10 2998 s hT (by omega)
  have hlen := hT.len
  have hall : rangeL ⟨[], [], false⟩ T.flat = T.flat := rangeL_all _
  have r0 : pcall C 2999 10 [tBt T, .flat (.val (.agg [.sl none [], .sl none [], .bool false]))] = some ([vEs T.flat], [tBt T]) := by
    have := r10 ⟨[], [], false⟩
    rw [hall] at this
    exact this
  by_cases h1 : Op.bytesLess mid f = true
  · have r1 := r10 ⟨mid, f, true⟩
    cases hz : ((((rangeL ⟨mid, f, true⟩ T.flat).map entV).length : Nat) : Int) == (0 : Int) with
    | true => simp only [h8, callB_some, ok4, needB_true, h9, ok25b, List.headD_cons, fvF, pvF, toB_bool, Bool.not_true, ifB_f, bb_isByte, bb_u8, h1, ifB_t, cells_box, deref_ptr, r1, ok27v, okOuts30, toL_sl, hz]
    | false => simp only [h8, callB_some, ok4, needB_true, h9, ok25b, List.headD_cons, fvF, pvF, toB_bool, Bool.not_true, ifB_f, bb_isByte, bb_u8, h1, ifB_t, cells_box, deref_ptr, r1, ok27v, okOuts30, toL_sl, hz]
  · have h1' : Op.bytesLess mid f = false := by simpa using h1
    by_cases h2 : Op.bytesLess t mid = true
    · have r1 := r10 ⟨mid, f, true⟩
      rw [rangeL_empty _ h1'] at r1
      have hz : (((((([] : List Ent).map entV).length : Nat) : Int)) == (0 : Int)) = true := rfl
      simp only [h8, callB_some, ok4, needB_true, h9, ok25b, List.headD_cons, fvF, pvF, toB_bool, Bool.not_true, ifB_f, bb_isByte, bb_u8, h1', h2, ifB_t, cells_box, deref_ptr, r1, ok27v, okOuts30, toL_sl, hz]
    · have h2' : Op.bytesLess t mid = false := by simpa using h2
      have r1 := r10 ⟨f, mid, true⟩
      have r2 := r10 ⟨mid, t, true⟩
      have r3 := r10 ⟨f, t, true⟩
      have l1 := rangeL_len ⟨f, mid, true⟩ T.flat
      have l2 := rangeL_len ⟨mid, t, true⟩ T.flat
      have hlp := ranges_loop 2999 2999 (by omega) f t T.flat _ _ (by omega) (by omega) (by omega) (range_join h1' h2' hT.sorted) 2999 0 (Nat.zero_le _) (by omega)
      rw [List.take_zero, show ((rangeL ⟨f, t, true⟩ []).length : Int) = (0 : Int) from rfl, show ((0 : Nat) : Int) = (0 : Int) from rfl] at hlp
      simp only [h8, callB_some, ok4, needB_true, h9, ok25b, List.headD_cons, fvF, pvF, toB_bool, Bool.not_true, ifB_f, bb_isByte, bb_u8, h1', h2', cells_box, deref_ptr, r1, r2, r3, r0, ok27v, okOuts30, toL_sl, hlp]
end Go.Proofs.Ytnieankaikhmnaa

open Go Go.Ev Go.T14

set_option linter.unusedSimpArgs false

set_option linter.unusedVariables false

namespace Go.Proofs.Ytnieankaikhmnaa

/-! ### BtreeGets -/
theorem getL_ins {e : Ent} {l : List Ent} (hs : Sorted l) : getL e.k (insL e l) = some e := (getL_some (insL_sorted hs)).2 ⟨mem_insL.2 (.inl rfl), rfl⟩
theorem getL_ins_ne {e : Ent} {k : List UInt8} {l : List Ent} (hs : Sorted l) (h : k ≠ e.k) : getL k (insL e l) = getL k l := by
  apply Option.ext
  intro x
  rw [getL_some (insL_sorted hs), getL_some hs, mem_insL]
  constructor
  · rintro ⟨rfl | ⟨h1, h2⟩, h3⟩
    · exact absurd h3.symm h
    · exact ⟨h1, h3⟩
  · rintro ⟨h1, h3⟩
    exact ⟨.inr ⟨h1, fun q => h (by rw [← h3, q])⟩, h3⟩
theorem getL_del {k : List UInt8} {l : List Ent} : has k (delL k l) = false := (has_false _ _).2 fun e he => (mem_delL.1 he).2
theorem getL_del_ne {a k : List UInt8} {l : List Ent} (hs : Sorted l) (h : k ≠ a) : getL k (delL a l) = getL k l := by
  apply Option.ext
  intro x
  rw [getL_some (delL_sorted hs), getL_some hs, mem_delL]
  constructor
  · rintro ⟨⟨h1, h2⟩, h3⟩
    exact ⟨h1, h3⟩
  · rintro ⟨h1, h3⟩
    exact ⟨⟨h1, fun q => h (by rw [← h3, q])⟩, h3⟩
theorem range_one {k : List UInt8} {l : List Ent} : rangeL ⟨k, k ++ [0], true⟩ (delL k l) = [] := filter_none fun x hx => by
  have hne := (mem_delL.1 hx).2
  unfold inSp
  dsimp only
  rw [T14.less_succ]
  cases h1 : Op.bytesLess x.k k with
  | true => rfl
  | false =>
    have : Op.bytesLess k x.k = true := by rw [less_tri k x.k (fun q => hne q.symm), h1]; rfl
    rw [this]; rfl
theorem s4 (acts : List AN) (key value other : List UInt8) (hA : ShortA acts) (hl : acts.length ≤ 100000000) (hk : key.length ≤ big) (hv : value.length ≤ big) : pcall C 3000 4 [vAs acts, vR key, vR value, vR other] = some ([vB true], []) := by
  rw [pcall_step (n := 2999) (by rfl) (by rfl), f4_vestrylaw14_BtreeGets_eq]
  unfold f4_vestrylaw14_BtreeGets
  have h8 := s8 2999 (by omega)
  obtain ⟨T, hT, h9⟩ := s9 2999 acts hA hl (by omega)
  have hT1 : Inv 81 (putB T ⟨key, value⟩) := hT.put hk hv
  have hT2 : Inv 81 (delB (putB T ⟨key, value⟩) key) := hT1.del
  obtain ⟨f1, _⟩ := putB_flat (e := ⟨key, value⟩) hT.okr hT.sorted
  obtain ⟨f2, _⟩ := delB_flat (k := key) hT1.okr hT1.sorted
  have a1 := s13' (N := 2999) other hT (by omega) (by omega)
  have a2 := s14' 2998 T
  have a3 := s13' (N := 2999) key hT (by omega) (by omega)
  have a4 := s15' (N := 2999) (e := ⟨key, value⟩) hT (by omega) hk hv (by omega)
  have a5 := s13' (N := 2999) key hT1 (by omega) (by omega)
  have a6 := s14' 2998 (putB T ⟨key, value⟩)
  have a7 := s16' (N := 2999) key hT1 (by omega) (by omega)
  have a8 := s13' (N := 2999) key hT2 (by omega) (by omega)
  have a9 := s13' (N := 2999) other hT2 (by omega) (by omega)
  have a10 := s10 2998 ⟨key, key ++ [0], true⟩ hT2 (by omega)
  have g1 : getL key (putB T ⟨key, value⟩).flat = some ⟨key, value⟩ := by rw [f1]; exact getL_ins (e := ⟨key, value⟩) hT.sorted
  have g2 : fnd key (putB T ⟨key, value⟩).flat = ⟨key, value⟩ := by unfold fnd; rw [g1]; rfl
  have g3 : has key (putB T ⟨key, value⟩).flat = true := by rw [← getL_has, g1]; rfl
  have g4 : has key (delB (putB T ⟨key, value⟩) key).flat = false := by rw [f2]; exact getL_del
  have g5 : rangeL ⟨key, key ++ [0], true⟩ (delB (putB T ⟨key, value⟩) key).flat = [] := by rw [f2]; exact range_one
  rw [g2, g3] at a5
  rw [g3] at a7
  rw [g4] at a8
  rw [g5] at a10
  have hlen := hT.len
  have e0 : [PV.int .u8 (0 : Int)] = bb [0] := by kernel_rfl
  have ek : ([] ++ bb key) ++ bb [0] = bb (key ++ [0]) := by simp [bb]
  unfold big at hk hv
  have b1 : Nat.ble ((([] : List PV).length + (bb key).length) * 1) 140737488355328 = true := by rw [Nat.ble_eq, List.length_map, List.length_nil]; omega
  have b2 : Nat.ble (([] : List PV).length + (bb key).length) 9223372036854775807 = true := by rw [Nat.ble_eq, List.length_map, List.length_nil]; omega
  have b3 : Nat.ble ((([] ++ bb key).length + (bb [0]).length) * 1) 140737488355328 = true := by rw [Nat.ble_eq, List.nil_append, List.length_map, List.length_map, List.length_singleton]; omega
  have b4 : Nat.ble (([] ++ bb key).length + (bb [0]).length) 9223372036854775807 = true := by rw [Nat.ble_eq, List.nil_append, List.length_map, List.length_map, List.length_singleton]; omega
  have hz : ((((([] : List Ent).map entV).length : Nat) : Int) == (0 : Int)) = true := rfl
  have hin := insL_length (e := ⟨key, value⟩) hT.sorted
  have fin : (other == key) = false → fnd other (delB (putB T ⟨key, value⟩) key).flat = fnd other T.flat ∧ has other (delB (putB T ⟨key, value⟩) key).flat = has other T.flat := fun ho => by
    have ho' : other ≠ key := by simpa using ho
    have : getL other (delB (putB T ⟨key, value⟩) key).flat = getL other T.flat := by
      rw [f2, f1, getL_del_ne (insL_sorted hT.sorted) ho', getL_ins_ne hT.sorted ho']
    exact ⟨by unfold fnd; rw [this], by rw [← getL_has, ← getL_has, this]⟩
  have qv : (value == value) = true := by simp
  have lst : ∀ x y : Bool, (x == x) = true := by intro x _; cases x <;> rfl
  cases ht : has key T.flat with
  | true =>
    have ln : (putB T ⟨key, value⟩).flat.length = T.flat.length := by
      rw [f1, hin]; rw [show has (⟨key, value⟩ : Ent).k T.flat = true from ht]; rfl
    have c1 : (((putB T ⟨key, value⟩).flat.length : Int) != (T.flat.length : Int)) = false := by rw [ln]; simp
    rw [ht] at a3 a4
    cases ho : other == key with
    | true =>
      simp only [h8, callB_some, ok4, needB_true, h9, ok25b, List.headD_cons, List.tail_cons, fvF, pvF, xsO, toB_bool, toI_int, toL_sl, Bool.not_true, Bool.not_false, ifB_f, ifB_t, cells_box, deref_ptr, a1, a2, a3, a4, a5, a6, a7, a8, a9, ok234, okOuts25, ok3, okOuts1, okOuts255, bb_isByte, bb_u8, beq_self_eq_true, qv, c1, e0, b1, b2, b3, b4, ek, a10, ok27v, okOuts30, hz, ho]
    | false =>
      obtain ⟨q1, q2⟩ := fin ho
      rw [q1, q2] at a9
      simp only [h8, callB_some, ok4, needB_true, h9, ok25b, List.headD_cons, List.tail_cons, fvF, pvF, xsO, toB_bool, toI_int, toL_sl, Bool.not_true, Bool.not_false, ifB_f, ifB_t, cells_box, deref_ptr, a1, a2, a3, a4, a5, a6, a7, a8, a9, ok234, okOuts25, ok3, okOuts1, okOuts255, bb_isByte, bb_u8, beq_self_eq_true, qv, c1, e0, b1, b2, b3, b4, ek, a10, ok27v, okOuts30, hz, ho]
  | false =>
    have ln : (putB T ⟨key, value⟩).flat.length = T.flat.length + 1 := by
      rw [f1, hin]; rw [show has (⟨key, value⟩ : Ent).k T.flat = false from ht]; rfl
    have c1 : (((putB T ⟨key, value⟩).flat.length : Int) != IntKind.wrap .i64 ((T.flat.length : Int) + 1)) = false := by rw [ln, wrap_succ (by omega)]; simp
    rw [ht] at a3 a4
    cases ho : other == key with
    | true =>
      simp only [h8, callB_some, ok4, needB_true, h9, ok25b, List.headD_cons, List.tail_cons, fvF, pvF, xsO, toB_bool, toI_int, toL_sl, Bool.not_true, Bool.not_false, ifB_f, ifB_t, cells_box, deref_ptr, a1, a2, a3, a4, a5, a6, a7, a8, a9, ok234, okOuts25, ok3, okOuts1, okOuts255, bb_isByte, bb_u8, beq_self_eq_true, qv, c1, e0, b1, b2, b3, b4, ek, a10, ok27v, okOuts30, hz, ho]
    | false =>
      obtain ⟨q1, q2⟩ := fin ho
      rw [q1, q2] at a9
      simp only [h8, callB_some, ok4, needB_true, h9, ok25b, List.headD_cons, List.tail_cons, fvF, pvF, xsO, toB_bool, toI_int, toL_sl, Bool.not_true, Bool.not_false, ifB_f, ifB_t, cells_box, deref_ptr, a1, a2, a3, a4, a5, a6, a7, a8, a9, ok234, okOuts25, ok3, okOuts1, okOuts255, bb_isByte, bb_u8, beq_self_eq_true, qv, c1, e0, b1, b2, b3, b4, ek, a10, ok27v, okOuts30, hz, ho]

/-! ### BtreeClones -/
theorem clones_end (N : Nat) (hN : 1200 ≤ N) {m : Nat} {T : BT} (hT : Inv m T) (hm : m ≤ 1000) : pcall C N 10 [tBt T, .flat (.val (.agg [.sl none [], .sl none [], .bool false]))] = some ([vEs T.flat], [tBt T]) := by
  obtain ⟨n, rfl⟩ : ∃ n, N = n + 1 := ⟨N - 1, by omega⟩
  have := s10 n ⟨[], [], false⟩ hT hm
  rw [rangeL_all] at this
  exact this
theorem same_self (N : Nat) (hN : 1200 ≤ N) {m : Nat} {T : BT} (hT : Inv m T) (hm : m ≤ 1000) : pcall C N 12 [vEs T.flat, vEs T.flat] = some ([vB true], []) := by
  have := s12 N T.flat T.flat (by have := hT.len; omega) (by have := hT.len; omega)
  simp only [decide_true] at this
  exact this
theorem clones_l1 (N n : Nat) (hN : 1200 ≤ N) (acts : List AN) (hA : ShortA acts) (hl : acts.length ≤ 100000000) (U : BT) (hU : Inv 200 U) : ∀ (m i : Nat) (T : BT), i ≤ 40 → i ≤ acts.length → Inv (80 + i) T → 40 - i < m →
    f6_vestrylaw14_BtreeClones.l1 (pcall C N) n m (acts.map actV) (pgOf T.d T.t) (pgOf U.d U.t) (U.flat.map entV) (i : Int) = some ([vB true], [])
  | 0, i, _, _, _, _, h => by omega
  | m + 1, i, T, hi, hil, hT, h => by
    show f6_vestrylaw14_BtreeClones.l1.step _ _ (f6_vestrylaw14_BtreeClones.l1 _ _ m) _ _ _ _ _ = _
    unfold f6_vestrylaw14_BtreeClones.l1.step
    obtain ⟨N', rfl⟩ : ∃ N', N = N' + 1 := ⟨N - 1, by omega⟩
    have r0 := clones_end (N' + 1) hN hU (by omega)
    have r1 := same_self (N' + 1) hN hU (by omega)
    have r2 := s14' N' U
    have c9 : (((U.flat.length : Int)) == (((U.flat.map entV).length : Nat) : Int)) = true := by rw [List.length_map]; simp
    by_cases hlt : i < acts.length
    · by_cases h40 : i < 40
      · have hx : acts[i]? = some acts[i] := List.getElem?_eq_getElem hlt
        have hmem : acts[i] ∈ acts := List.getElem_mem hlt
        generalize acts[i] = a at hx hmem
        obtain ⟨hk, hv⟩ := hA a hmem
        have c1 : (i : Int) < (((acts.map actV).length : Nat) : Int) := by rw [List.length_map]; omega
        have c2 : (0 : Int) ≤ (i : Int) := by omega
        have c3 : ((i : Int) < (40 : Int)) := by omega
        have w2 : IntKind.wrap .i64 ((i : Int) + 1) = ((i + 1 : Nat) : Int) := wrap_succ (by omega)
        by_cases h0 : a.d = 0
        · have e0 : (a.d == (0 : Int)) = true := by simpa using h0
          have h15 := s15' (N := N' + 1) (e := ⟨a.k, a.v⟩) hT (by omega) hk hv (by omega)
          have ih := clones_l1 (N' + 1) n hN acts hA hl U hU m (i + 1) (putB T ⟨a.k, a.v⟩) (by omega) (by omega) (hT.put hk hv) (by omega)
          simp only [c1, c2, c3, decide_true, ifB_t, needB_true, Int.toNat_natCast, nthP_map actV hx, hasT46, cells_act, List.headD_cons, List.tail_cons, toI_int, toL_sl, e0, h15, callB_some, ok4, okOuts255, cells_box, pvF, deref_ptr, w2, ih]
        · have e0 : (a.d == (0 : Int)) = false := by simpa using h0
          have h16 := s16' (N := N' + 1) a.k hT (by omega) (by omega)
          have ih := clones_l1 (N' + 1) n hN acts hA hl U hU m (i + 1) (delB T a.k) (by omega) (by omega) (hT.del.mono (by omega)) (by omega)
          simp only [c1, c2, c3, decide_true, ifB_t, ifB_f, needB_true, Int.toNat_natCast, nthP_map actV hx, hasT46, cells_act, List.headD_cons, List.tail_cons, toI_int, toL_sl, e0, h16, callB_some, ok4, okOuts25, cells_box, pvF, deref_ptr, w2, ih]
      · have c1 : (i : Int) < (((acts.map actV).length : Nat) : Int) := by rw [List.length_map]; omega
        have c3 : ¬ ((i : Int) < (40 : Int)) := by omega
        simp only [c1, c3, decide_true, decide_false, ifB_t, ifB_f, r0, r1, r2, callB_some, ok27v, okOuts30, needB_true, List.headD_cons, fvF, pvF, toL_sl, toB_bool, toI_int, ok4, ok3, okOuts1, cells_box, deref_ptr, c9]
    · have c1 : ¬ ((i : Int) < (((acts.map actV).length : Nat) : Int)) := by rw [List.length_map]; omega
      simp only [c1, decide_false, ifB_f, ifB_t, r0, r1, r2, callB_some, ok27v, okOuts30, needB_true, List.headD_cons, fvF, pvF, toL_sl, toB_bool, toI_int, ok4, ok3, okOuts1, cells_box, deref_ptr, c9]
theorem clones_l0 (N n : Nat) (hN : 1200 ≤ N) (hn : 100 ≤ n) (acts others : List AN) (hA : ShortA acts) (hl : acts.length ≤ 100000000) (hA' : ShortA others) (hl' : others.length ≤ 100000000) (T : BT) (hT : Inv 80 T) : ∀ (m i : Nat) (U : BT), i ≤ 40 → i ≤ acts.length → Inv (80 + i) U → 40 - i < m →
    f6_vestrylaw14_BtreeClones.l0 (pcall C N) n m (acts.map actV) (others.map actV) (pgOf T.d T.t) (pgOf U.d U.t) (T.flat.map entV) (i : Int) = some ([vB true], [])
  | 0, i, _, _, _, _, h => by omega
  | m + 1, i, U, hi, hil, hU, h => by
    show f6_vestrylaw14_BtreeClones.l0.step _ _ _ (f6_vestrylaw14_BtreeClones.l0 _ _ m) _ _ _ _ _ _ = _
    unfold f6_vestrylaw14_BtreeClones.l0.step
    have r0 := clones_end N hN hT (by omega)
    have r1 := same_self N hN hT (by omega)
    have r3 := clones_end N hN hU (by omega)
    have l1 := clones_l1 N n hN others hA' hl' U (hU.mono (by omega)) n 0 T (Nat.zero_le _) (Nat.zero_le _) hT (by omega)
    rw [show ((0 : Nat) : Int) = (0 : Int) from rfl] at l1
    by_cases hlt : i < acts.length
    · by_cases h40 : i < 40
      · have hx : acts[i]? = some acts[i] := List.getElem?_eq_getElem hlt
        have hmem : acts[i] ∈ acts := List.getElem_mem hlt
        generalize acts[i] = a at hx hmem
        obtain ⟨hk, hv⟩ := hA a hmem
        have c1 : (i : Int) < (((acts.map actV).length : Nat) : Int) := by rw [List.length_map]; omega
        have c2 : (0 : Int) ≤ (i : Int) := by omega
        have c3 : ((i : Int) < (40 : Int)) := by omega
        have w2 : IntKind.wrap .i64 ((i : Int) + 1) = ((i + 1 : Nat) : Int) := wrap_succ (by omega)
        by_cases h0 : a.d = 0
        · have e0 : (a.d == (0 : Int)) = true := by simpa using h0
          have h15 := s15' (N := N) (e := ⟨a.k, a.v⟩) hU (by omega) hk hv (by omega)
          have ih := clones_l0 N n hN hn acts others hA hl hA' hl' T hT m (i + 1) (putB U ⟨a.k, a.v⟩) (by omega) (by omega) (hU.put hk hv) (by omega)
          simp only [c1, c2, c3, decide_true, ifB_t, needB_true, Int.toNat_natCast, nthP_map actV hx, hasT46, cells_act, List.headD_cons, List.tail_cons, toI_int, toL_sl, e0, h15, callB_some, ok4, okOuts255, cells_box, pvF, deref_ptr, w2, ih]
        · have e0 : (a.d == (0 : Int)) = false := by simpa using h0
          have h16 := s16' (N := N) a.k hU (by omega) (by omega)
          have ih := clones_l0 N n hN hn acts others hA hl hA' hl' T hT m (i + 1) (delB U a.k) (by omega) (by omega) (hU.del.mono (by omega)) (by omega)
          simp only [c1, c2, c3, decide_true, ifB_t, ifB_f, needB_true, Int.toNat_natCast, nthP_map actV hx, hasT46, cells_act, List.headD_cons, List.tail_cons, toI_int, toL_sl, e0, h16, callB_some, ok4, okOuts25, cells_box, pvF, deref_ptr, w2, ih]
      · have c1 : (i : Int) < (((acts.map actV).length : Nat) : Int) := by rw [List.length_map]; omega
        have c3 : ¬ ((i : Int) < (40 : Int)) := by omega
        simp only [c1, c3, decide_true, decide_false, ifB_t, ifB_f, r0, r1, r3, callB_some, ok27v, okOuts30, needB_true, List.headD_cons, fvF, pvF, toL_sl, toB_bool, Bool.not_true, ok4, cells_box, deref_ptr, l1]
    · have c1 : ¬ ((i : Int) < (((acts.map actV).length : Nat) : Int)) := by rw [List.length_map]; omega
      simp only [c1, decide_false, ifB_f, r0, r1, r3, callB_some, ok27v, okOuts30, needB_true, List.headD_cons, fvF, pvF, toL_sl, toB_bool, Bool.not_true, ok4, cells_box, deref_ptr, l1]
theorem s6 (acts more others : List AN) (hA : ShortA acts) (hl : acts.length ≤ 100000000) (hA1 : ShortA more) (hl1 : more.length ≤ 100000000) (hA2 : ShortA others) (hl2 : others.length ≤ 100000000) : pcall C 3000 6 [vAs acts, vAs more, vAs others] = some ([vB true], []) := by
  rw [pcall_step (n := 2999) (by rfl) (by rfl), f6_vestrylaw14_BtreeClones_eq]
  unfold f6_vestrylaw14_BtreeClones f6_vestrylaw14_BtreeClones.pre
  have h8 := s8 2999 (by omega)
  obtain ⟨T, hT, h9⟩ := s9 2999 acts hA hl (by omega)
  have h18 := s18' 2998 T
  have r0 := clones_end 2999 (by omega) hT (by omega)
  have l0 := clones_l0 2999 2999 (by omega) (by omega) more others hA1 hl1 hA2 hl2 T hT 2999 0 T (Nat.zero_le _) (Nat.zero_le _) hT (by omega)
  rw [show ((0 : Nat) : Int) = (0 : Int) from rfl] at l0
  simp only [h8, callB_some, ok4, needB_true, h9, ok25b, List.headD_cons, fvF, pvF, toB_bool, Bool.not_true, ifB_f, cells_box, deref_ptr, h18, okOuts1, r0, ok27v, okOuts30, toL_sl, l0]
end Go.Proofs.Ytnieankaikhmnaa

open Go Go.Ev Go.T14

set_option linter.unusedSimpArgs false

set_option linter.unusedVariables false

namespace Go.Proofs.Ytnieankaikhmnaa

/-! ### BtreeShapes -/
theorem ok51 (l : List PV) : okOs Try.prog [51] [] [.flat (.val (.sl none l))] = true := by kernel_rfl
theorem isAgg_ent (e : Ent) : (Ev.isAgg (entV e) && Nat.ble (0 + 1) (List.length (PV.cells (entV e)))) = true := rfl
theorem partX_ent (e : Ent) : partX none 0 (entV e) = .sl none (bb e.k) := rfl
abbrev lvV (l : List Ent) : PV := .sl (some 2) (l.map entV)
theorem leaves_len {m : Nat} {T : BT} (h : Inv m T) : 1 ≤ (leaves T.d T.t).length ∧ ((T.d = 0) ↔ (leaves T.d T.t).length = 1) ∧ ∀ l ∈ leaves T.d T.t, l.length ≤ 4 ∧ (1 < (leaves T.d T.t).length → 2 ≤ l.length) := by
  obtain ⟨d, t⟩ := T
  have ho := h.okr
  cases d with
  | zero =>
    refine ⟨by simp [leaves], by simp [leaves], fun l hl => ?_⟩
    simp only [leaves, List.mem_singleton] at hl
    subst hl
    exact ⟨ho, fun q => by simp [leaves] at q⟩
  | succ d =>
    have ho : Okr (d + 1) t := ho
    have h2 := leaves_many ho
    have h3 := okp_leaves (d + 1) t ho
    dsimp only
    exact ⟨h3.1, by constructor <;> intro q <;> omega, fun l hl => ⟨(h3.2 l hl).2, fun _ => (h3.2 l hl).1⟩⟩
theorem deep80 {T : BT} (h : Inv 80 T) : T.d ≤ 5 := by
  obtain ⟨d, t⟩ := T
  cases d with
  | zero => exact Nat.zero_le _
  | succ d =>
    have h1 := (okp_count (d + 1) t h.okr).1
    have h2 : (flat (d + 1) t).length ≤ 80 := h.len
    show d + 1 ≤ 5
    rcases Nat.lt_or_ge 5 (d + 1) with hd | hd
    · have : 2 ^ 7 ≤ 2 ^ (d + 1 + 1) := Nat.pow_le_pow_right (by decide) (by omega)
      have e : (2 : Nat) ^ 7 = 128 := by decide
      omega
    · exact hd
theorem pow_bounds {T : BT} (h : Inv 80 T) (hd : 0 < T.d) :
    ¬ ((T.flat.length : Int) < IntKind.wrap .i64 ((1 : Int) * (2 : Int) ^ (min (Int.toNat ((T.d + 1 : Nat) : Int)) (IntKind.bits .i64)))) ∧
    ¬ ((T.flat.length : Int) > IntKind.wrap .i64 ((1 : Int) * (2 : Int) ^ (min (Int.toNat (IntKind.wrap .i64 ((2 : Int) * ((T.d + 1 : Nat) : Int)))) (IntKind.bits .i64)))) := by
  have h5 := deep80 h
  obtain ⟨d, t⟩ := T
  have h1 : 2 ^ (d + 1) ≤ (flat d t).length ∧ (flat d t).length ≤ 4 ^ (d + 1) := by
    cases d with
    | zero => exact absurd hd (by simp)
    | succ d => exact okp_count (d + 1) t h.okr
  show ¬ (((flat d t).length : Int) < _) ∧ ¬ (((flat d t).length : Int) > _)
  dsimp only at h5 hd ⊢
  generalize (flat d t).length = L at h1 ⊢
  have : d = 1 ∨ d = 2 ∨ d = 3 ∨ d = 4 ∨ d = 5 := by omega
  have w : ∀ (a b : Nat), IntKind.wrap .i64 ((1 : Int) * (2 : Int) ^ (min (Int.toNat ((a : Nat) : Int)) (IntKind.bits .i64))) = ((2 ^ (min a 64) : Nat) : Int) → True := fun _ _ _ => trivial
  rcases this with rfl | rfl | rfl | rfl | rfl
  · have e1 : IntKind.wrap .i64 ((1 : Int) * (2 : Int) ^ (min (Int.toNat ((1 + 1 : Nat) : Int)) (IntKind.bits .i64))) = 4 := by decide +kernel
    have e2 : IntKind.wrap .i64 ((1 : Int) * (2 : Int) ^ (min (Int.toNat (IntKind.wrap .i64 ((2 : Int) * ((1 + 1 : Nat) : Int)))) (IntKind.bits .i64))) = 16 := by decide +kernel
    rw [e1, e2]; omega
  · have e1 : IntKind.wrap .i64 ((1 : Int) * (2 : Int) ^ (min (Int.toNat ((2 + 1 : Nat) : Int)) (IntKind.bits .i64))) = 8 := by decide +kernel
    have e2 : IntKind.wrap .i64 ((1 : Int) * (2 : Int) ^ (min (Int.toNat (IntKind.wrap .i64 ((2 : Int) * ((2 + 1 : Nat) : Int)))) (IntKind.bits .i64))) = 64 := by decide +kernel
    rw [e1, e2]; omega
  · have e1 : IntKind.wrap .i64 ((1 : Int) * (2 : Int) ^ (min (Int.toNat ((3 + 1 : Nat) : Int)) (IntKind.bits .i64))) = 16 := by decide +kernel
    have e2 : IntKind.wrap .i64 ((1 : Int) * (2 : Int) ^ (min (Int.toNat (IntKind.wrap .i64 ((2 : Int) * ((3 + 1 : Nat) : Int)))) (IntKind.bits .i64))) = 256 := by decide +kernel
    rw [e1, e2]; omega
  · have e1 : IntKind.wrap .i64 ((1 : Int) * (2 : Int) ^ (min (Int.toNat ((4 + 1 : Nat) : Int)) (IntKind.bits .i64))) = 32 := by decide +kernel
    have e2 : IntKind.wrap .i64 ((1 : Int) * (2 : Int) ^ (min (Int.toNat (IntKind.wrap .i64 ((2 : Int) * ((4 + 1 : Nat) : Int)))) (IntKind.bits .i64))) = 1024 := by decide +kernel
    rw [e1, e2]; omega
  · have e1 : IntKind.wrap .i64 ((1 : Int) * (2 : Int) ^ (min (Int.toNat ((5 + 1 : Nat) : Int)) (IntKind.bits .i64))) = 64 := by decide +kernel
    have e2 : IntKind.wrap .i64 ((1 : Int) * (2 : Int) ^ (min (Int.toNat (IntKind.wrap .i64 ((2 : Int) * ((5 + 1 : Nat) : Int)))) (IntKind.bits .i64))) = 4096 := by decide +kernel
    rw [e1, e2]; omega
theorem shapes_l2 (N n : Nat) (hN : 1200 ≤ N) (self : List PV → PV → Int → Option (List OV × List OV)) (x0 : List PV) (x2 : Int) (T : BT) (hT : Inv 80 T) : ∀ (m k : Nat), 1 ≤ k → T.flat.length - k < m →
    f7_vestrylaw14_BtreeShapes.l2 (pcall C N) n self m x0 (pgOf T.d T.t) x2 ((leaves T.d T.t).map lvV) ((T.d + 1 : Nat) : Int) (T.flat.map entV) (k : Int) = self x0 (pgOf T.d T.t) (IntKind.wrap .i64 (x2 + 1))
  | 0, k, _, h => by omega
  | m + 1, k, hk, h => by
    show f7_vestrylaw14_BtreeShapes.l2.step _ _ _ (f7_vestrylaw14_BtreeShapes.l2 _ _ _ m) _ _ _ _ _ _ _ = _
    unfold f7_vestrylaw14_BtreeShapes.l2.step
    obtain ⟨N', rfl⟩ : ∃ N', N = N' + 1 := ⟨N - 1, by omega⟩
    have hlen := hT.len
    by_cases hlt : k < T.flat.length
    · have hx : T.flat[k]? = some T.flat[k] := List.getElem?_eq_getElem hlt
      have hy : T.flat[k - 1]? = some T.flat[k - 1] := List.getElem?_eq_getElem (by omega)
      have hs := List.pairwise_iff_getElem.1 hT.sorted (k - 1) k (by omega) hlt (by omega)
      generalize T.flat[k] = e at hx hs
      generalize T.flat[k - 1] = e' at hy hs
      have c1 : (k : Int) < (((T.flat.map entV).length : Nat) : Int) := by rw [List.length_map]; omega
      have c2 : (0 : Int) ≤ (k : Int) := by omega
      have w1 : IntKind.wrap .i64 ((k : Int) - 1) = ((k - 1 : Nat) : Int) := by rw [IntKind.wrap_i64]; omega
      have w2 : IntKind.wrap .i64 ((k : Int) + 1) = ((k + 1 : Nat) : Int) := wrap_succ (by omega)
      have c3 : (0 : Int) ≤ ((k - 1 : Nat) : Int) := by omega
      have c4 : ((k - 1 : Nat) : Int) < (((T.flat.map entV).length : Nat) : Int) := by rw [List.length_map]; omega
      have b1 : Nat.blt k (T.flat.map entV).length = true := by rw [Nat.blt_eq, List.length_map]; exact hlt
      have b2 : Nat.blt (k - 1) (T.flat.map entV).length = true := by rw [Nat.blt_eq, List.length_map]; omega
      have q1 : Op.bytesLess e.k e'.k = false := less_asymm hs
      have q2 : (e.k == e'.k) = false := by have := less_ne hs; simpa using fun q => this q.symm
      have ih := shapes_l2 (N' + 1) n hN self x0 x2 T hT m (k + 1) (by omega) (by omega)
      simp only [c1, c2, c3, c4, decide_true, ifB_t, ifB_f, needB_true, Int.toNat_natCast, b1, b2, w1, w2, nthP_map entV hx, nthP_map entV hy, isAgg_ent, partX_ent, hasT23, toL_sl, bb_isByte, bb_u8, q1, q2, Bool.or_self, ih]
    · have c1 : ¬ ((k : Int) < (((T.flat.map entV).length : Nat) : Int)) := by rw [List.length_map]; omega
      obtain ⟨l1, l2, l3⟩ := leaves_len hT
      have c2 : ¬ (((((leaves T.d T.t).map lvV).length : Nat) : Int) < (1 : Int)) := by rw [List.length_map]; omega
      have h14 := s14' N' T
      have c3 : ((((T.flat.map entV).length : Nat) : Int) != (T.flat.length : Int)) = false := by rw [List.length_map]; simp
      have r0 := clones_end (N' + 1) hN hT (by omega)
      have r1 := same_self (N' + 1) hN hT (by omega)
      have c4 : ((((T.d + 1 : Nat) : Int) == (1 : Int)) == (((((leaves T.d T.t).map lvV).length : Nat) : Int) == (1 : Int))) = true := by
        rw [List.length_map]
        by_cases hd : T.d = 0
        · rw [list_one _ (l2.1 hd), list_one _ (by omega)]; rfl
        · rw [list_none _ (fun q => hd (l2.2 q)), list_none _ (by omega)]; rfl
      have c5 : ¬ (((T.d + 1 : Nat) : Int) < (1 : Int)) := by omega
      have h5 := deep80 hT
      have c6 : ¬ (((T.d + 1 : Nat) : Int) > (8 : Int)) := by omega
      by_cases hd : 0 < T.d
      · obtain ⟨p1, p2⟩ := pow_bounds hT hd
        have c7 : (((T.d + 1 : Nat) : Int) > (1 : Int)) := by omega
        have c8 : (0 : Int) ≤ ((T.d + 1 : Nat) : Int) := by omega
        have c9 : (0 : Int) ≤ IntKind.wrap .i64 ((2 : Int) * ((T.d + 1 : Nat) : Int)) := by rw [IntKind.wrap_i64]; omega
        have p1' : ¬ ((((T.flat.map entV).length : Nat) : Int) < IntKind.wrap .i64 ((1 : Int) * (2 : Int) ^ (min (Int.toNat ((T.d + 1 : Nat) : Int)) (IntKind.bits .i64)))) := by rw [List.length_map]; exact p1
        have p2' : ¬ ((((T.flat.map entV).length : Nat) : Int) > IntKind.wrap .i64 ((1 : Int) * (2 : Int) ^ (min (Int.toNat (IntKind.wrap .i64 ((2 : Int) * ((T.d + 1 : Nat) : Int)))) (IntKind.bits .i64)))) := by rw [List.length_map]; exact p2
        simp only [c1, c2, decide_false, decide_true, ifB_f, ifB_t, h14, callB_some, ok3, okOuts1, needB_true, List.headD_cons, fvF, pvF, toI_int, c3, cells_box, deref_ptr, r0, ok27v, okOuts30, toL_sl, r1, ok4, toB_bool, Bool.not_true, c4, c5, c6, c7, c8, c9, p1', p2']
      · have c7 : ¬ (((T.d + 1 : Nat) : Int) > (1 : Int)) := by omega
        simp only [c1, c2, decide_false, decide_true, ifB_f, ifB_t, h14, callB_some, ok3, okOuts1, needB_true, List.headD_cons, fvF, pvF, toI_int, c3, cells_box, deref_ptr, r0, ok27v, okOuts30, toL_sl, r1, ok4, toB_bool, Bool.not_true, c4, c5, c6, c7]
theorem shapes_l1 (N n : Nat) (hN : 1200 ≤ N) (hn : 200 ≤ n) (self : List PV → PV → Int → Option (List OV × List OV)) (x0 : List PV) (x2 : Int) (T : BT) (hT : Inv 80 T) : ∀ (m k : Nat), k ≤ (leaves T.d T.t).length → (leaves T.d T.t).length - k < m →
    f7_vestrylaw14_BtreeShapes.l1 (pcall C N) n self m x0 (pgOf T.d T.t) x2 ((leaves T.d T.t).map lvV) ((T.d + 1 : Nat) : Int) (((leaves T.d T.t).take k).flatten.map entV) (k : Int) = self x0 (pgOf T.d T.t) (IntKind.wrap .i64 (x2 + 1))
  | 0, k, _, h => by omega
  | m + 1, k, hk, h => by
    show f7_vestrylaw14_BtreeShapes.l1.step _ _ _ _ (f7_vestrylaw14_BtreeShapes.l1 _ _ _ m) _ _ _ _ _ _ _ = _
    unfold f7_vestrylaw14_BtreeShapes.l1.step
    have hlen := hT.len
    obtain ⟨l1, l2, l3⟩ := leaves_len hT
    have hfl : (leaves T.d T.t).flatten = T.flat := (flat_leaves T.d T.t).symm
    by_cases hlt : k < (leaves T.d T.t).length
    · have hx : (leaves T.d T.t)[k]? = some (leaves T.d T.t)[k] := List.getElem?_eq_getElem hlt
      have hmem : (leaves T.d T.t)[k] ∈ leaves T.d T.t := List.getElem_mem hlt
      generalize (leaves T.d T.t)[k] = l at hx hmem
      obtain ⟨q1, q2⟩ := l3 l hmem
      have htk : ((leaves T.d T.t).take (k + 1)).flatten = ((leaves T.d T.t).take k).flatten ++ l := by
        rw [List.take_add_one, hx, List.flatten_append]; simp
      have hle : (((leaves T.d T.t).take (k + 1)).flatten).length ≤ T.flat.length := by
        rw [← hfl]
        conv => rhs; rw [← List.take_append_drop (k + 1) (leaves T.d T.t)]
        rw [List.flatten_append, List.length_append]; omega
      rw [htk, List.length_append] at hle
      have ih := shapes_l1 N n hN hn self x0 x2 T hT m (k + 1) hlt (by omega)
      rw [htk, List.map_append] at ih
      have c1 : (k : Int) < ((((leaves T.d T.t).map lvV).length : Nat) : Int) := by rw [List.length_map]; omega
      have c2 : (0 : Int) ≤ (k : Int) := by omega
      have c3 : ¬ ((((l.map entV).length : Nat) : Int) > (4 : Int)) := by rw [List.length_map]; omega
      have b1 : Nat.ble (((((leaves T.d T.t).take k).flatten.map entV).length + (l.map entV).length) * 48) 140737488355328 = true := by rw [Nat.ble_eq, List.length_map, List.length_map]; omega
      have b2 : Nat.ble ((((leaves T.d T.t).take k).flatten.map entV).length + (l.map entV).length) 9223372036854775807 = true := by rw [Nat.ble_eq, List.length_map, List.length_map]; omega
      have w2 : IntKind.wrap .i64 ((k : Int) + 1) = ((k + 1 : Nat) : Int) := wrap_succ (by
        have : (leaves T.d T.t).length ≤ 1000 := by
          have hf2 : ∀ ls : List (List Ent), (∀ l ∈ ls, 2 ≤ l.length) → 2 * ls.length ≤ ls.flatten.length := by
            intro ls
            induction ls with
            | nil => intro _; simp
            | cons a r ih =>
              intro hh
              have := ih fun x hx => hh x (by simp [hx])
              have := hh a (by simp)
              simp only [List.length_cons, List.flatten_cons, List.length_append]; omega
          by_cases h1 : (leaves T.d T.t).length = 1
          · omega
          · have := hf2 _ fun l hl => (l3 l hl).2 (by omega)
            rw [hfl] at this; omega
        omega)
      by_cases hm : 1 < (leaves T.d T.t).length
      · have c4 : (((((leaves T.d T.t).map lvV).length : Nat) : Int) > (1 : Int)) := by rw [List.length_map]; omega
        have c5 : ¬ ((((l.map entV).length : Nat) : Int) < (2 : Int)) := by rw [List.length_map]; have := q2 hm; omega
        simp only [c1, c2, decide_true, ifB_t, needB_true, Int.toNat_natCast, nthP_map lvV hx, hasT27, toL_sl, c3, decide_false, ifB_f, c4, c5, b1, b2, w2, ih]
      · have c4 : ¬ (((((leaves T.d T.t).map lvV).length : Nat) : Int) > (1 : Int)) := by rw [List.length_map]; omega
        simp only [c1, c2, decide_true, ifB_t, needB_true, Int.toNat_natCast, nthP_map lvV hx, hasT27, toL_sl, c3, decide_false, ifB_f, c4, b1, b2, w2, ih]
    · have c1 : ¬ ((k : Int) < ((((leaves T.d T.t).map lvV).length : Nat) : Int)) := by rw [List.length_map]; omega
      have e : (leaves T.d T.t).take k = leaves T.d T.t := List.take_of_length_le (by omega)
      rw [e, hfl]
      have := shapes_l2 N n hN self x0 x2 T hT n 1 (Nat.le_refl _) (by omega)
      rw [show ((1 : Nat) : Int) = (1 : Int) from rfl] at this
      simp only [c1, decide_false, ifB_f, this]
theorem shapes_go (N n : Nat) (hN : 1200 ≤ N) (hn : 200 ≤ n) (self : List PV → PV → Int → Option (List OV × List OV)) (x0 : List PV) (x2 : Int) (T : BT) (hT : Inv 80 T) :
    f7_vestrylaw14_BtreeShapes.l1 (pcall C N) n self n x0 (pgOf T.d T.t) x2 ((leaves T.d T.t).map lvV) ((T.d + 1 : Nat) : Int) [] (0 : Int) = self x0 (pgOf T.d T.t) (IntKind.wrap .i64 (x2 + 1)) := by
  obtain ⟨l1, l2, l3⟩ := leaves_len hT
  have hlen := hT.len
  have hfl : (leaves T.d T.t).flatten = T.flat := (flat_leaves T.d T.t).symm
  have hle : (leaves T.d T.t).length ≤ 80 := by
    have hf2 : ∀ ls : List (List Ent), (∀ l ∈ ls, 2 ≤ l.length) → 2 * ls.length ≤ ls.flatten.length := by
      intro ls
      induction ls with
      | nil => intro _; simp
      | cons a r ih =>
        intro hh
        have := ih fun x hx => hh x (by simp [hx])
        have := hh a (by simp)
        simp only [List.length_cons, List.flatten_cons, List.length_append]; omega
    by_cases h1 : (leaves T.d T.t).length = 1
    · omega
    · have := hf2 _ fun l hl => (l3 l hl).2 (by omega)
      rw [hfl] at this; omega
  exact shapes_l1 N n hN hn self x0 x2 T hT n 0 (Nat.zero_le _) (by omega)
theorem shapes_l0 (N n : Nat) (hN : 1200 ≤ N) (hn : 200 ≤ n) (acts : List AN) (hA : ShortA acts) (hl : acts.length ≤ 100000000) : ∀ (m i : Nat) (T : BT), i ≤ 80 → i ≤ acts.length → Inv i T → 80 - i < m →
    f7_vestrylaw14_BtreeShapes.l0 (pcall C N) n m (acts.map actV) (pgOf T.d T.t) (i : Int) = some ([vB true], [])
  | 0, i, _, _, _, _, h => by omega
  | m + 1, i, T, hi, hil, hT, h => by
    show f7_vestrylaw14_BtreeShapes.l0.step _ _ _ (f7_vestrylaw14_BtreeShapes.l0 _ _ m) _ _ _ = _
    unfold f7_vestrylaw14_BtreeShapes.l0.step
    obtain ⟨N', rfl⟩ : ∃ N', N = N' + 1 := ⟨N - 1, by omega⟩
    have h14 := s14' N' T
    have c9 : ((T.flat.length : Int) ≥ (0 : Int)) := by omega
    by_cases hlt : i < acts.length
    · by_cases h80 : i < 80
      · have hx : acts[i]? = some acts[i] := List.getElem?_eq_getElem hlt
        have hmem : acts[i] ∈ acts := List.getElem_mem hlt
        generalize acts[i] = a at hx hmem
        obtain ⟨hk, hv⟩ := hA a hmem
        have hS := hT.step (a := a) hk hv
        have ih := shapes_l0 (N' + 1) n hN hn acts hA hl m (i + 1) (stepB T a) (by omega) (by omega) hS (by omega)
        have hS80 : Inv 80 (stepB T a) := hS.mono (by omega)
        have w2 : IntKind.wrap .i64 ((i : Int) + 1) = ((i + 1 : Nat) : Int) := wrap_succ (by omega)
        have go := shapes_go (N' + 1) n hN hn (f7_vestrylaw14_BtreeShapes.l0 (pcall C (N' + 1)) n m) (acts.map actV) (i : Int) (stepB T a) hS80
        rw [w2, ih] at go
        have h21 := s21 N' hS80 (by omega)
        have h22 := s22' (N := N' + 1) hS80 (by omega) (by omega)
        have c1 : (i : Int) < (((acts.map actV).length : Nat) : Int) := by rw [List.length_map]; omega
        have c2 : (0 : Int) ≤ (i : Int) := by omega
        have c3 : ((i : Int) < (80 : Int)) := by omega
        have h15 := s15' (N := N' + 1) (e := ⟨a.k, a.v⟩) hT (by omega) hk hv (by omega)
        by_cases h0 : a.d = 0
        · have e0 : (a.d == (0 : Int)) = true := by simpa using h0
          have e1 : (a.d == (1 : Int)) = false := by rw [h0]; rfl
          have est : stepB T a = putB T ⟨a.k, a.v⟩ := if_pos h0
          rw [est] at h21 h22 go
          simp only [c1, c2, c3, decide_true, ifB_t, ifB_f, needB_true, Int.toNat_natCast, nthP_map actV hx, hasT46, cells_act, List.headD_cons, List.tail_cons, toI_int, toL_sl, e0, e1, h15, callB_some, ok4, okOuts255, cells_box, pvF, fvF, deref_ptr, h21, ok51, okOuts1, h22, ok3, go]
        · have e0 : (a.d == (0 : Int)) = false := by simpa using h0
          by_cases h1 : a.d = 1
          · have e1 : (a.d == (1 : Int)) = true := by simpa using h1
            have est : stepB T a = delB T a.k := (if_neg h0).trans (if_pos h1)
            have h16 := s16' (N := N' + 1) a.k hT (by omega) (by omega)
            rw [est] at h21 h22 go
            simp only [c1, c2, c3, decide_true, ifB_t, ifB_f, needB_true, Int.toNat_natCast, nthP_map actV hx, hasT46, cells_act, List.headD_cons, List.tail_cons, toI_int, toL_sl, e0, e1, h16, callB_some, ok4, okOuts25, cells_box, pvF, fvF, deref_ptr, h21, ok51, okOuts1, h22, ok3, go]
          · have e1 : (a.d == (1 : Int)) = false := by simpa using h1
            have est : stepB T a = T := (if_neg h0).trans (if_neg h1)
            rw [est] at h21 h22 go
            simp only [c1, c2, c3, decide_true, ifB_t, ifB_f, needB_true, Int.toNat_natCast, nthP_map actV hx, hasT46, cells_act, List.headD_cons, List.tail_cons, toI_int, toL_sl, e0, e1, callB_some, cells_box, pvF, fvF, deref_ptr, h21, ok51, okOuts1, h22, ok3, go]
      · have c1 : (i : Int) < (((acts.map actV).length : Nat) : Int) := by rw [List.length_map]; omega
        have c3 : ¬ ((i : Int) < (80 : Int)) := by omega
        simp only [c1, c3, decide_true, decide_false, ifB_t, ifB_f, h14, callB_some, ok3, okOuts1, needB_true, List.headD_cons, fvF, pvF, toI_int, c9]
    · have c1 : ¬ ((i : Int) < (((acts.map actV).length : Nat) : Int)) := by rw [List.length_map]; omega
      simp only [c1, decide_true, decide_false, ifB_t, ifB_f, h14, callB_some, ok3, okOuts1, needB_true, List.headD_cons, fvF, pvF, toI_int, c9]
theorem s7 (acts : List AN) (hA : ShortA acts) (hl : acts.length ≤ 100000000) : pcall C 3000 7 [vAs acts] = some ([vB true], []) := by
  rw [pcall_step (n := 2999) (by rfl) (by rfl), f7_vestrylaw14_BtreeShapes_eq]
  unfold f7_vestrylaw14_BtreeShapes f7_vestrylaw14_BtreeShapes.pre
  have h8 := s8 2999 (by omega)
  have h17 := s17 2997
  have l0 := shapes_l0 2999 2999 (by omega) (by omega) acts hA hl 2999 0 ⟨0, []⟩ (Nat.zero_le _) (Nat.zero_le _) inv0 (by omega)
  rw [show ((0 : Nat) : Int) = (0 : Int) from rfl] at l0
  simp only [h8, callB_some, ok4, needB_true, h17, ok25b, List.headD_cons, fvF, pvF, toB_bool, Bool.not_true, ifB_f, cells_box, deref_ptr, l0]
end Go.Proofs.Ytnieankaikhmnaa

