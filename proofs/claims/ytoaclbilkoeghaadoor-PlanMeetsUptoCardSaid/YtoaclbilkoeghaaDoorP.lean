/- What the functions answer, and the laws. -/
import Derived.Test.YtoaclbilkoeghaaDoorX

set_option linter.unusedVariables false

set_option linter.unusedSimpArgs false

set_option linter.unusedSectionVars false

open Go Go.Ev

set_option linter.unusedSimpArgs false

set_option linter.unusedVariables false

set_option maxHeartbeats 4000000

namespace Go.Proofs.YtoaclbilkoeghaaDoor
open X13 (Vl Rs pV pE vP vV IsE IsV argsOf eK eO eV valOf fewN evalN opN cmpN rightN sameV inI numV trueN nullV knownN compareBytes_eq)

theorem wrap_nat' (i : Nat) (h : i < 9223372036854775807) : IntKind.wrap .i64 ((i : Int) + 1) = ((i + 1 : Nat) : Int) := wrap_nat i h
theorem sCmp (n : Nat) (a b : List UInt8) : pcall C (n + 1) 33 [vR a, vR b] = some ([vI (Lib.compareBytes a b)], []) := by
  rw [pcall_prim (p := primBytesCompare) (by rfl)]
  unfold primBytesCompare
  dsimp only
  rw [isByte_bb, isByte_bb, Bool.and_self]
  dsimp only
  rw [u8_bb, u8_bb]
/-- A span. -/
structure Sp where
  f : List UInt8
  t : List UInt8
  e : Bool
  deriving DecidableEq
abbrev vSp (s : Sp) : OV := .cont .agg [.own none (bb s.f) [], .own none (bb s.t) [], .val (.bool s.e)]
abbrev vSd (s : Sp) : OV := .flat (.val (.agg [.sl none (bb s.f), .sl none (bb s.t), .bool s.e]))
theorem hasT4 (b : Bool) : hasT Go.Proofs.Tryd.prog 4 (.bool b) = true := by kernel_rfl
theorem okSp (s : Sp) : okOs Go.Proofs.Tryd.prog [31] [.a [true, true, false]] [vSp s] = true := by
  have h1 : elemShape Go.Proofs.Tryd.prog 29 = none := by kernel_rfl
  have hc : cellTys Go.Proofs.Tryd.prog 8 31 = [29, 29, 4] := by kernel_rfl
  show ((okFs Go.Proofs.Tryd.prog (cellTys Go.Proofs.Tryd.prog 8 31) [true, true, false] [.own none (bb s.f) [], .own none (bb s.t) [], .val (.bool s.e)]) && true) = true
  rw [hc]
  show (((shEq (elemShape Go.Proofs.Tryd.prog 29) none && okRow Go.Proofs.Tryd.prog 29 (bb s.f) []) && ((shEq (elemShape Go.Proofs.Tryd.prog 29) none && okRow Go.Proofs.Tryd.prog 29 (bb s.t) []) && (hasT Go.Proofs.Tryd.prog 4 (.bool s.e) && true))) && true) = true
  rw [h1, row22, row22, hasT4]
  rfl
theorem okSd (s : Sp) : okOs Go.Proofs.Tryd.prog [31] [] [vSd s] = true := by kernel_rfl
theorem cellsC (k : CK) (l : List FV) : OV.cells (.cont k l) = l := rfl
theorem cellsA (l : List PV) : PV.cells (.agg l) = l := rfl
theorem toS_str' (s : List UInt8) : PV.toS (.str s) = s := rfl
def allS : Sp := ⟨[], [], false⟩
def noneS : Sp := ⟨[], [], true⟩
theorem s19a (n : Nat) : pcall C (n + 1) 19 [] = some ([vSp allS], []) := by
  rw [pcall_step (by rfl) (by rfl), f19_plan_All_eq]
  rfl
theorem s20a (n : Nat) : pcall C (n + 1) 20 [] = some ([vSp noneS], []) := by
  rw [pcall_step (by rfl) (by rfl), f20_plan_None_eq]
  rfl
def meetN (a b : Sp) : Sp := ⟨if Lib.compareBytes b.f a.f > 0 then b.f else a.f, if a.e then (if b.e then (if Lib.compareBytes a.t b.t ≤ 0 then a.t else b.t) else a.t) else if b.e then b.t else [], a.e || b.e⟩
theorem s15m (n : Nat) (a b : Sp) (h1 : a.f.length ≤ 140737488355328) (h2 : a.t.length ≤ 140737488355328) (h3 : b.f.length ≤ 140737488355328) (h4 : b.t.length ≤ 140737488355328) : pcall C (n + 2) 15 [vSd a, vSd b] = some ([vSp (meetN a b)], []) := by
  obtain ⟨af, aT, ae⟩ := a
  obtain ⟨bf, bt, be⟩ := b
  rw [pcall_step (by rfl) (by rfl), f15_plan_Meet_eq]
  unfold f15_plan_Meet
  have k1 := sCmp n bf af
  have k2 := sCmp n aT bt
  have k3 := s31 n af h1
  have k4 := s31 n aT h2
  have k5 := s31 n bf h3
  have k6 := s31 n bt h4
  have k7 : pcall C (n + 1) 34 [.flat (.val (.sl none []))] = _ := s31 n [] (by simp)
  have o3 : ∀ z : Int, okOs Go.Proofs.Tryd.prog [3] [] [vI z] = true := fun z => by kernel_rfl
  by_cases c1 : Lib.compareBytes bf af > 0 <;> by_cases c2 : Lib.compareBytes aT bt ≤ 0 <;> cases ae <;> cases be <;>
    simp only [k1, k2, k3, k4, k5, k6, k7, callB_some, o3, ok22, needB_true, List.headD_cons, fvF, pvF, xsO, toI_int, c1, c2, decide_true, decide_false, ifB_eq, Bool.not_true, Bool.not_false, Bool.false_eq_true, if_true, if_false, meetN, Bool.or_false, Bool.or_true, Bool.false_or, Bool.true_or] <;> rfl
def inN (s : Sp) (k : List UInt8) : Bool := (!(Op.bytesLess k s.f)) && (!s.e || Op.bytesLess k s.t)
theorem s18i (n : Nat) (s : Sp) (k : List UInt8) : pcall C (n + 1) 18 [vSd s, vR k] = some ([vB (inN s k)], []) := by
  obtain ⟨f, t, e⟩ := s
  rw [pcall_step (by rfl) (by rfl), f18_vestryref14_In_eq]
  unfold f18_vestryref14_In inN
  simp only [isByte_bb, needB_true, u8_bb, ifB_eq]
  cases Op.bytesLess k f <;> cases e <;> simp
theorem s11s (n : Nat) (a b : Sp) : pcall C (n + 1) 11 [vSd a, vSd b] = some ([vB (decide (a = b))], []) := by
  obtain ⟨af, aT, ae⟩ := a
  obtain ⟨bf, bt, be⟩ := b
  rw [pcall_step (by rfl) (by rfl), f11_vestryref15_Same_eq]
  unfold f11_vestryref15_Same
  simp only [isByte_bb, needB_true, u8_bb, ifB_eq]
  by_cases h1 : af = bf <;> by_cases h2 : aT = bt <;> cases ae <;> cases be <;> simp [h1, h2]
theorem less_irrefl : ∀ a : List UInt8, Op.bytesLess a a = false
  | [] => rfl
  | x :: r => by simp [Op.bytesLess, less_irrefl r, UInt8.lt_irrefl]
theorem cmp_pos (x y : List UInt8) : (Lib.compareBytes x y > 0) ↔ (x ≠ y ∧ Op.bytesLess x y = false) := by
  rw [compareBytes_eq]
  by_cases h : x = y
  · simp [h]
  · by_cases h2 : Op.bytesLess x y = true
    · simp [h, h2]
    · have : Op.bytesLess x y = false := by simpa using h2
      simp [h, this]
theorem less_tri : ∀ (x y : List UInt8), x ≠ y → Op.bytesLess x y = !Op.bytesLess y x
  | [], [], h => absurd rfl h
  | [], y :: t, _ => rfl
  | x :: s, [], _ => rfl
  | x :: s, y :: t, h => by
    simp only [Op.bytesLess]
    by_cases hxy : x = y
    · subst hxy
      have hne : s ≠ t := fun e => h (by rw [e])
      simp [UInt8.lt_irrefl, less_tri s t hne]
    · have hyx : ¬ y = x := fun e => hxy e.symm
      have e1 : (x == y) = false := by simpa using hxy
      have e2 : (y == x) = false := by simpa using hyx
      rw [e1, e2, Bool.false_and, Bool.false_and, Bool.or_false, Bool.or_false]
      have : x < y ∨ y < x := by
        rcases UInt8.lt_or_lt_of_ne hxy with h | h
        · exact .inl h
        · exact .inr h
      rcases this with h1 | h1
      · rw [decide_eq_true h1, decide_eq_false (UInt8.lt_asymm h1)]; rfl
      · rw [decide_eq_false (UInt8.lt_asymm h1), decide_eq_true h1]; rfl
theorem less_trans : ∀ (x y z : List UInt8), Op.bytesLess x y = true → Op.bytesLess y z = true → Op.bytesLess x z = true
  | [], [], z, h1, h2 => by simp [Op.bytesLess] at h1
  | [], y :: t, [], h1, h2 => by simp [Op.bytesLess] at h2
  | [], y :: t, z :: u, h1, h2 => rfl
  | x :: s, [], z, h1, h2 => by simp [Op.bytesLess] at h1
  | x :: s, y :: t, [], h1, h2 => by simp [Op.bytesLess] at h2
  | x :: s, y :: t, z :: u, h1, h2 => by
    simp only [Op.bytesLess, Bool.or_eq_true, decide_eq_true_eq, Bool.and_eq_true, beq_iff_eq] at h1 h2 ⊢
    rcases h1 with h1 | ⟨rfl, h1⟩ <;> rcases h2 with h2 | ⟨rfl, h2⟩
    · exact .inl (UInt8.lt_trans h1 h2)
    · exact .inl h1
    · exact .inl h2
    · exact .inr ⟨rfl, less_trans s t u h1 h2⟩
theorem gt_iff (x y : List UInt8) : (Lib.compareBytes x y > 0) ↔ Op.bytesLess y x = true := by
  rw [cmp_pos]
  by_cases h : x = y
  · subst h; simp [less_irrefl]
  · have := less_tri y x (fun e => h e.symm)
    cases hxy : Op.bytesLess x y <;> simp [h, this, hxy]
theorem le_iff (x y : List UInt8) : (Lib.compareBytes x y ≤ 0) ↔ Op.bytesLess y x = false := by
  have := gt_iff x y
  constructor
  · intro h
    cases hb : Op.bytesLess y x with
    | false => rfl
    | true => have := this.2 hb; omega
  · intro h
    by_cases h2 : 0 < Lib.compareBytes x y
    · rw [this.1 h2] at h; cases h
    · omega
/-- Below the greater of two just if below one. -/
theorem not_less_max (k x y : List UInt8) : (!Op.bytesLess k (if Lib.compareBytes y x > 0 then y else x)) = (!Op.bytesLess k x && !Op.bytesLess k y) := by
  by_cases h : Lib.compareBytes y x > 0
  · rw [if_pos h]
    have hxy := (gt_iff y x).1 h
    cases hk : Op.bytesLess k x with
    | true => rw [less_trans k x y hk hxy]; rfl
    | false => simp
  · rw [if_neg h]
    have hxy : Op.bytesLess x y = false := by
      cases hb : Op.bytesLess x y with
      | false => rfl
      | true => exact absurd ((gt_iff y x).2 hb) h
    cases hk : Op.bytesLess k y with
    | false => simp
    | true =>
      have : Op.bytesLess k x = true := by
        by_cases e : x = y
        · rw [e]; exact hk
        · have hyx : Op.bytesLess y x = true := by
            have := less_tri y x (fun e' => e e'.symm)
            rw [hxy] at this; simpa using this
          exact less_trans k y x hk hyx
      simp [this]
theorem less_min (k x y : List UInt8) : Op.bytesLess k (if Lib.compareBytes x y ≤ 0 then x else y) = (Op.bytesLess k x && Op.bytesLess k y) := by
  by_cases h : Lib.compareBytes x y ≤ 0
  · rw [if_pos h]
    have hyx := (le_iff x y).1 h
    cases hk : Op.bytesLess k x with
    | false => rfl
    | true =>
      by_cases e : x = y
      · rw [← e, hk]; rfl
      · have : Op.bytesLess x y = true := by
          have := less_tri x y e
          rw [hyx] at this; simpa using this
        rw [less_trans k x y hk this]; rfl
  · rw [if_neg h]
    have hyx := (gt_iff x y).1 (by omega)
    cases hk : Op.bytesLess k y with
    | false => simp
    | true => rw [less_trans k y x hk hyx]; rfl
theorem in_meet (a b : Sp) (k : List UInt8) : inN (meetN a b) k = (inN a k && inN b k) := by
  obtain ⟨af, aT, ae⟩ := a
  obtain ⟨bf, bt, be⟩ := b
  simp only [inN, meetN]
  rw [not_less_max]
  cases ae <;> cases be <;> simp only [Bool.or_false, Bool.or_true, Bool.false_or, Bool.true_or, Bool.not_true, Bool.not_false, if_true, if_false, Bool.false_eq_true, Bool.true_and, Bool.and_true]
  · cases (!Op.bytesLess k af) <;> cases (!Op.bytesLess k bf) <;> simp
  · cases (!Op.bytesLess k af) <;> cases (!Op.bytesLess k bf) <;> cases Op.bytesLess k aT <;> simp
  · rw [less_min]
    cases (!Op.bytesLess k af) <;> cases (!Op.bytesLess k bf) <;> cases Op.bytesLess k aT <;> cases Op.bytesLess k bt <;> simp
theorem meet_comm (a b : Sp) : meetN a b = meetN b a := by
  obtain ⟨af, aT, ae⟩ := a
  obtain ⟨bf, bt, be⟩ := b
  have e1 : (if Lib.compareBytes bf af > 0 then bf else af) = (if Lib.compareBytes af bf > 0 then af else bf) := by
    by_cases e : af = bf
    · subst e; split <;> rfl
    · have h1 := gt_iff bf af
      have h2 := gt_iff af bf
      have h3 := less_tri af bf e
      cases h : Op.bytesLess af bf
      · rw [h] at h1 h3
        have h4 : Op.bytesLess bf af = true := by simpa using h3.symm
        rw [h4] at h2
        rw [if_neg (by rw [h1]; simp), if_pos (by rw [h2])]
      · rw [h] at h1 h3
        have h4 : Op.bytesLess bf af = false := by simpa using h3.symm
        rw [h4] at h2
        rw [if_pos (by rw [h1]), if_neg (by rw [h2]; simp)]
  have e2 : (if Lib.compareBytes aT bt ≤ 0 then aT else bt) = (if Lib.compareBytes bt aT ≤ 0 then bt else aT) := by
    by_cases e : aT = bt
    · subst e; split <;> rfl
    · have h1 := le_iff aT bt
      have h2 := le_iff bt aT
      have h3 := less_tri aT bt e
      cases h : Op.bytesLess aT bt
      · rw [h] at h2 h3
        have h4 : Op.bytesLess bt aT = true := by simpa using h3.symm
        rw [h4] at h1
        rw [if_neg (by rw [h1]; simp), if_pos (by rw [h2])]
      · rw [h] at h2 h3
        have h4 : Op.bytesLess bt aT = false := by simpa using h3.symm
        rw [h4] at h1
        rw [if_pos (by rw [h1]), if_neg (by rw [h2]; simp)]
  unfold meetN
  dsimp only
  rw [e1]
  cases ae <;> cases be <;> simp only [if_true, if_false, Bool.false_eq_true, Bool.or_false, Bool.or_true, Bool.false_or, Bool.true_or]
  rw [e2]
end Go.Proofs.YtoaclbilkoeghaaDoor

open Go Go.Ev

set_option linter.unusedSimpArgs false

set_option linter.unusedVariables false

set_option maxHeartbeats 4000000

namespace Go.Proofs.YtoaclbilkoeghaaDoor
open X13 (Vl Rs pV pE vP vV IsE IsV argsOf eK eO eV valOf fewN evalN opN cmpN rightN sameV inI numV trueN nullV knownN compareBytes_eq)

theorem right0 {v : Vl} (h : rightN v = 0) : (v.k = 0 ∧ v.n = 0 ∧ v.t = []) ∨ (v.k = 1 ∧ v.t = []) ∨ (v.k = 2 ∧ v.n = 0 ∧ v.t.length ≤ 40) := by
  unfold rightN at h
  split at h
  · omega
  · split at h
    · omega
    · split at h
      · omega
      · split at h
        · omega
        · rename_i h1 h2 h3 h4
          have hk : v.k = 0 ∨ v.k = 1 ∨ v.k = 2 := by omega
          rcases hk with hk | hk | hk
          · exact .inl ⟨hk, by omega, by
              by_cases ht : v.t = []
              · exact ht
              · exact absurd ⟨by omega, ht⟩ h3⟩
          · exact .inr (.inl ⟨hk, by
              by_cases ht : v.t = []
              · exact ht
              · exact absurd ⟨by omega, ht⟩ h3⟩)
          · exact .inr (.inr ⟨hk, by omega, by omega⟩)
/-- A value's key, and what is wrong. -/
def keyN (v : Vl) : List UInt8 × Int := if rightN v ≠ 0 then ([], rightN v) else (if v.k = 1 then 1 :: keyOf v.n else if v.k = 2 then 2 :: tkey v.t else [0], 0)
theorem keyN_err (v : Vl) : (keyN v).2 = rightN v := by
  unfold keyN
  split
  · rfl
  · rename_i h; omega
theorem key_len (v : Vl) : (keyN v).1.length ≤ 90 := by
  unfold keyN
  split
  · simp
  · rename_i h
    have h0 : rightN v = 0 := by omega
    have ht := tkey_len v.t
    have hk : (keyOf v.n).length = 8 := by rw [key_be, be_length]
    rcases right0 h0 with ⟨k, _, _⟩ | ⟨k, _⟩ | ⟨k, _, hl⟩ <;> simp [k] <;> omega
theorem ok_42 (n : Int) : okOs Go.Proofs.Tryd.prog [42] [] [vI n] = true := by kernel_rfl
theorem ok2942 (l : List UInt8) (e : Int) : okOs Go.Proofs.Tryd.prog [29, 42] [.o, .v] [vO l, vI e] = true := by
  show (okO Go.Proofs.Tryd.prog 29 .o (vO l) && (okO Go.Proofs.Tryd.prog 42 .v (vI e) && true)) = true
  rw [okO22, show okO Go.Proofs.Tryd.prog 42 .v (vI e) = true by kernel_rfl]; rfl
theorem s23k (n : Nat) (v : Vl) : pcall C (n + 100) 23 [vV v.k v.n v.t] = some ([vO (keyN v).1, vI (keyN v).2], []) := by
  obtain ⟨k, m, t⟩ := v
  rw [pcall_step (by rfl) (by rfl), f23_value_Key_eq]
  unfold f23_value_Key keyN
  have h1 : pcall C (n + 99) 21 [vV k m t] = _ := X13.s11 (n + 97) k m t
  by_cases h0 : rightN ⟨k, m, t⟩ = 0
  · rw [h0] at h1
    have y0 : (((0 : Int) != (0 : Int)) : Bool) = false := rfl
    have h2 : pcall C (n + 99) 36 [vI m] = _ := s21 (n + 86) m
    have lk : (keyOf m).length = 8 := by rw [key_be, be_length]
    have l1 : ∀ x : PV, ([x] : List PV).length = 1 := fun _ => rfl
    rcases right0 h0 with ⟨e1, e2, e3⟩ | ⟨e1, e2⟩ | ⟨e1, e2, e3⟩ <;> dsimp only at e1 e2
    · subst e1
      simp only [h1, callB_some, ok_42, needB_true, List.headD_cons, fvF, pvF, toI_int, y0, ifB_eq, Bool.false_eq_true, if_false, show ((0 : Int) == 1) = false from rfl, show ((0 : Int) == 2) = false from rfl, h0, ne_eq, not_true_eq_false, show ¬ ((0 : Int) = 1) from by decide, show ¬ ((0 : Int) = 2) from by decide]
      rfl
    · subst e1
      have b1 : Nat.ble ((1 + 8) * 1) 140737488355328 = true := by decide
      have b2 : Nat.ble (1 + 8) 9223372036854775807 = true := by decide
      simp only [h1, callB_some, ok_42, ok22, needB_true, List.headD_cons, fvF, pvF, xsO, toI_int, y0, ifB_eq, Bool.false_eq_true, if_false, if_true, show ((1 : Int) == 1) = true from rfl, h0, ne_eq, not_true_eq_false, h2, bb_length, lk, l1, b1, b2]
      rfl
    · subst e1
      dsimp only at e3
      have h3 := s8' (n + 99) t (by omega) (by omega)
      have tl := tkey_len t
      have b1 : Nat.ble ((1 + (tkey t).length) * 1) 140737488355328 = true := by rw [Nat.ble_eq]; omega
      have b2 : Nat.ble (1 + (tkey t).length) 9223372036854775807 = true := by rw [Nat.ble_eq]; omega
      simp only [h1, callB_some, ok_42, ok22, needB_true, List.headD_cons, fvF, pvF, xsO, toI_int, y0, ifB_eq, Bool.false_eq_true, if_false, if_true, show ((2 : Int) == 1) = false from rfl, show ((2 : Int) == 2) = true from rfl, h0, ne_eq, not_true_eq_false, h3, bb_length, l1, b1, b2, show ¬ ((2 : Int) = 1) from by decide]
      rfl
  · have y0 : ((rightN ⟨k, m, t⟩ != (0 : Int)) : Bool) = true := by simpa using h0
    simp only [h1, callB_some, ok_42, needB_true, List.headD_cons, fvF, pvF, toI_int, y0, ifB_eq, if_true, ne_eq, h0, not_false_eq_true]
    rfl
def testS (o : Int) (v : Vl) : Sp :=
  if rightN v ≠ 0 then allS else if v.k = 0 then noneS
  else if o = 3 then ⟨(keyN v).1, (keyN v).1 ++ [0], true⟩ else if o = 5 then ⟨[], (keyN v).1, true⟩ else if o = 6 then ⟨[], (keyN v).1 ++ [0], true⟩
  else if o = 7 then ⟨(keyN v).1 ++ [0], [], false⟩ else ⟨(keyN v).1, [], false⟩
theorem test_len (o : Int) (v : Vl) : (testS o v).f.length ≤ 100 ∧ (testS o v).t.length ≤ 100 := by
  have := key_len v
  unfold testS
  repeat' split
  all_goals simp [allS, noneS] <;> omega
theorem s27t (n : Nat) (o : Int) (v : Vl) : pcall C (n + 101) 27 [vI o, vV v.k v.n v.t] = some ([vSp (testS o v)], []) := by
  rw [pcall_step (by rfl) (by rfl), f27_plan_test_eq]
  unfold f27_plan_test testS
  have h1 : pcall C (n + 100) 23 [vV v.k v.n v.t] = _ := s23k n v
  have h2 : pcall C (n + 100) 19 [] = _ := s19a (n + 99)
  have h3 : pcall C (n + 100) 20 [] = _ := s20a (n + 99)
  have kl := key_len v
  have h4 : pcall C (n + 100) 34 [vR (keyN v).1] = _ := s31 (n + 99) (keyN v).1 (by omega)
  rw [keyN_err] at h1
  by_cases h0 : rightN v = 0
  · rw [h0] at h1
    have y0 : (((0 : Int) != (0 : Int)) : Bool) = false := rfl
    have l1 : ∀ x : PV, ([x] : List PV).length = 1 := fun _ => rfl
    have b1 : Nat.ble (((keyN v).1.length + 1) * 1) 140737488355328 = true := by rw [Nat.ble_eq]; omega
    have b2 : Nat.ble ((keyN v).1.length + 1) 9223372036854775807 = true := by rw [Nat.ble_eq]; omega
    have a0 : bb (keyN v).1 ++ [PV.int .u8 0] = bb ((keyN v).1 ++ [0]) := by simp [bb, pvByte]
    by_cases hk : v.k = 0
    · have e : ((v.k == (0 : Int)) : Bool) = true := by rw [hk]; rfl
      simp only [h1, callB_some, ok2942, needB_true, List.headD_cons, List.tail_cons, fvF, pvF, xsO, toI_int, toB_bool, y0, ifB_eq, Bool.false_eq_true, if_false, e, if_true, h3, okSp, cellsC, h0, ne_eq, not_true_eq_false]
      rw [if_pos hk]
    · have e : ((v.k == (0 : Int)) : Bool) = false := by simpa using hk
      simp only [h1, callB_some, ok2942, ok22, needB_true, List.headD_cons, List.tail_cons, fvF, pvF, xsO, toI_int, toB_bool, y0, ifB_eq, Bool.false_eq_true, if_false, e, h4, bb_length, l1, b1, b2, a0, h0, ne_eq, not_true_eq_false, hk]
      by_cases o3 : o = 3
      · simp [o3]
      by_cases o5 : o = 5
      · simp [o5]
      by_cases o6 : o = 6
      · simp [o6]
      by_cases o7 : o = 7
      · simp [o7]
      simp [o3, o5, o6, o7]
  · have y0 : ((rightN v != (0 : Int)) : Bool) = true := by simpa using h0
    simp only [h1, callB_some, ok2942, needB_true, List.headD_cons, List.tail_cons, fvF, pvF, xsO, toI_int, toB_bool, y0, ifB_eq, if_true, h2, okSp, cellsC, ne_eq, h0, not_false_eq_true]
def mirrorN (o : Int) : Int := if o = 5 then 7 else if o = 6 then 8 else if o = 7 then 5 else if o = 8 then 6 else o
theorem s28m (n : Nat) (o : Int) (h : 3 ≤ o ∧ o ≤ 8) : pcall C (n + 1) 28 [vI o] = some ([vI (mirrorN o)], []) := by
  have hc : o = 3 ∨ o = 4 ∨ o = 5 ∨ o = 6 ∨ o = 7 ∨ o = 8 := by omega
  rw [pcall_step (by rfl) (by rfl), f28_plan_mirror_eq]
  unfold f28_plan_mirror mirrorN
  rcases hc with rfl | rfl | rfl | rfl | rfl | rfl <;> rfl
/-- Is it that column, and the other a value? -/
def isN (x y : PV) (c : Int) : Bool := (eK x == 2) && (sameV (eV x) (numV c) && (eK y == 1))
theorem s26i (n : Nat) (k o : Int) (s1 s2 : List UInt8) (vk vn : Int) (vt : List UInt8) (gs : List PV) (k' o' : Int) (s1' s2' : List UInt8) (vk' vn' : Int) (vt' : List UInt8) (gs' : List PV) (c : Int) :
    pcall C (n + 1) 26 [vP (pE k o s1 s2 vk vn vt gs), vP (pE k' o' s1' s2' vk' vn' vt' gs'), .flat (.val (.ptr (some 1) (.agg [.int .i64 c])))] = some ([vB (isN (pE k o s1 s2 vk vn vt gs) (pE k' o' s1' s2' vk' vn' vt' gs') c)], []) := by
  rw [pcall_step (by rfl) (by rfl), f26_plan_Span_1_eq]
  unfold f26_plan_Span_1 isN
  rw [X13.eK_pE, X13.eK_pE, X13.eV_pE]
  simp only [X13.hasT3, needB_true, toI_int, ifB_eq, sameV, numV]
  cases (k == 2) <;> cases (vk == 1) <;> cases (vn == c) <;> cases (k' == 1) <;> first | rfl | (cases vt <;> rfl) | (simp; done) | skip
end Go.Proofs.YtoaclbilkoeghaaDoor

open Go Go.Ev

set_option linter.unusedSimpArgs false

set_option linter.unusedVariables false

set_option maxHeartbeats 4000000

namespace Go.Proofs.YtoaclbilkoeghaaDoor
open X13 (Vl Rs pV pE vP vV IsE IsV argsOf eK eO eV valOf fewN evalN opN cmpN rightN sameV inI numV trueN nullV knownN compareBytes_eq)
def spanN : Nat → PV → Int → Sp
  | 0, _, _ => allS
  | d + 1, e, c => if eK e ≠ 3 then allS else match argsOf e with
    | [x, y] => if eO e = 2 then meetN (spanN d x c) (spanN d y c) else if eO e < 3 ∨ eO e > 8 ∨ eO e = 4 then allS
      else if isN x y c then testS (eO e) (eV y) else if isN y x c then testS (mirrorN (eO e)) (eV x) else allS
    | _ => allS
theorem span_len : ∀ (d : Nat) (e : PV) (c : Int), (spanN d e c).f.length ≤ 100 ∧ (spanN d e c).t.length ≤ 100
  | 0, e, c => by simp [spanN, allS]
  | d + 1, e, c => by
    unfold spanN
    split
    · simp [allS]
    · split
      · rename_i x y _
        have h1 := span_len d x c
        have h2 := span_len d y c
        split
        · unfold meetN
          dsimp only
          constructor
          · split <;> omega
          · repeat' split
            all_goals first | omega | simp
        · split
          · simp [allS]
          · split
            · exact test_len _ _
            · split
              · exact test_len _ _
              · simp [allS]
      · simp [allS]
theorem s10s : ∀ (d n : Nat) (e : PV) (c : Int), IsE e → fewN d e = true → pcall C (n + d + 110) 10 [vP e, vI c] = some ([vSp (spanN d e c)], [])
  | 0, n, e, c, he, hf => by simp [fewN] at hf
  | d + 1, n, e, c, he, hf => by
    obtain ⟨k, o, s1, s2, vk, vn, vt, gs, rfl, hn, ha⟩ := he.inv
    rw [pcall_step (by rfl) (by rfl), f10_plan_Span_eq]
    unfold f10_plan_Span
    have h19 : pcall C (n + (d + 1) + 109) 19 [] = _ := s19a (n + (d + 1) + 108)
    have hfa : ∀ x ∈ gs, fewN d x = true := fun x hx => by
      unfold fewN at hf
      simp only [Bool.and_eq_true] at hf
      exact List.all_eq_true.1 hf.2 x hx
    by_cases hk : k = 3
    · have y3 : ((k != (3 : Int)) : Bool) = false := by rw [hk]; rfl
      by_cases hl : gs.length = 2
      · have y2 : ((((gs.length : Nat) : Int) != (2 : Int)) : Bool) = false := by rw [hl]; rfl
        obtain ⟨x, y, rfl⟩ : ∃ x y, gs = [x, y] := by
          match gs, hl with
          | [x, y], _ => exact ⟨x, y, rfl⟩
        have hx := ha x (by simp)
        have hy := ha y (by simp)
        have fx := hfa x (by simp)
        have fy := hfa y (by simp)
        have rx : pcall C (n + (d + 1) + 109) 10 [vP x, vI c] = _ := s10s d n x c hx fx
        have ry : pcall C (n + (d + 1) + 109) 10 [vP y, vI c] = _ := s10s d n y c hy fy
        have lx := span_len d x c
        have ly := span_len d y c
        have hm : pcall C (n + (d + 1) + 109) 15 [vSd (spanN d x c), vSd (spanN d y c)] = _ := s15m (n + (d + 1) + 107) (spanN d x c) (spanN d y c) (by omega) (by omega) (by omega) (by omega)
        have es : spanN (d + 1) (pE k o s1 s2 vk vn vt [x, y]) c = if o = 2 then meetN (spanN d x c) (spanN d y c) else if o < 3 ∨ o > 8 ∨ o = 4 then allS
          else if isN x y c then testS o (eV y) else if isN y x c then testS (mirrorN o) (eV x) else allS := by
          show (if k ≠ 3 then allS else _) = _
          rw [if_neg (by omega)]
          rfl
        rw [es]
        obtain ⟨k1, o1, p1, q1, vk1, vn1, vt1, g1, ex, _, _⟩ := hx.inv
        obtain ⟨k2, o2, p2, q2, vk2, vn2, vt2, g2, ey, _, _⟩ := hy.inv
        subst ex
        subst ey
        have i1 : pcall C (n + (d + 1) + 109) 26 [vP (pE k1 o1 p1 q1 vk1 vn1 vt1 g1), vP (pE k2 o2 p2 q2 vk2 vn2 vt2 g2), .flat (.val (.ptr (some 1) (.agg [.int .i64 c])))] = _ := s26i (n + (d + 1) + 108) k1 o1 p1 q1 vk1 vn1 vt1 g1 k2 o2 p2 q2 vk2 vn2 vt2 g2 c
        have i2 : pcall C (n + (d + 1) + 109) 26 [vP (pE k2 o2 p2 q2 vk2 vn2 vt2 g2), vP (pE k1 o1 p1 q1 vk1 vn1 vt1 g1), .flat (.val (.ptr (some 1) (.agg [.int .i64 c])))] = _ := s26i (n + (d + 1) + 108) k2 o2 p2 q2 vk2 vn2 vt2 g2 k1 o1 p1 q1 vk1 vn1 vt1 g1 c
        have t1 : pcall C (n + (d + 1) + 109) 27 [vI o, vV vk2 vn2 vt2] = _ := s27t (n + (d + 1) + 8) o ⟨vk2, vn2, vt2⟩
        have t2 : pcall C (n + (d + 1) + 109) 27 [vI (mirrorN o), vV vk1 vn1 vt1] = _ := s27t (n + (d + 1) + 8) (mirrorN o) ⟨vk1, vn1, vt1⟩
        rw [X13.eV_pE, X13.eV_pE]
        have c0 : ((0 : Int) < ((([pE k1 o1 p1 q1 vk1 vn1 vt1 g1, pE k2 o2 p2 q2 vk2 vn2 vt2 g2] : List PV).length : Nat) : Int)) := by simp
        have c1 : ((1 : Int) < ((([pE k1 o1 p1 q1 vk1 vn1 vt1 g1, pE k2 o2 p2 q2 vk2 vn2 vt2 g2] : List PV).length : Nat) : Int)) := by simp
        have n0 : nthP [pE k1 o1 p1 q1 vk1 vn1 vt1 g1, pE k2 o2 p2 q2 vk2 vn2 vt2 g2] 0 = pE k1 o1 p1 q1 vk1 vn1 vt1 g1 := rfl
        have n1 : nthP [pE k1 o1 p1 q1 vk1 vn1 vt1 g1, pE k2 o2 p2 q2 vk2 vn2 vt2 g2] 1 = pE k2 o2 p2 q2 vk2 vn2 vt2 g2 := rfl
        have tx : hasT Go.Proofs.Tryd.prog 26 (pE k1 o1 p1 q1 vk1 vn1 vt1 g1) = true := X13.hasT35 _ _ _ _ _ _ _ _
        have ty : hasT Go.Proofs.Tryd.prog 26 (pE k2 o2 p2 q2 vk2 vn2 vt2 g2) = true := X13.hasT35 _ _ _ _ _ _ _ _
        have o3 : ∀ z : Int, okOs Go.Proofs.Tryd.prog [3] [] [vI z] = true := fun z => by kernel_rfl
        simp only [y3, y2, ifB_eq, Bool.false_eq_true, if_false, c0, c1, n0, n1, tx, ty, decide_true, needB_true, cellsA, List.headD_cons, List.tail_cons, toI_int, toS_str', toL_sl, X13.hasT3]
        by_cases ho2 : o = 2
        · subst ho2
          simp only [beq_self_eq_true, if_true]
          simp only [rx, ry, callB_some, okSp, needB_true, List.headD_cons, List.tail_cons, cellsC, xsO, pvF, toB_bool, hm]
        · have b2 : ((o == (2 : Int)) : Bool) = false := by simpa using ho2
          simp only [b2, Bool.false_eq_true, if_false, ho2]
          by_cases h3 : o < 3
          · simp only [h3, decide_true, if_true, h19, callB_some, okSp, needB_true, List.headD_cons, List.tail_cons, cellsC, xsO, pvF, toB_bool, true_or]
          by_cases h8 : o > 8
          · simp only [h3, h8, decide_true, decide_false, Bool.false_eq_true, if_false, if_true, h19, callB_some, okSp, needB_true, List.headD_cons, List.tail_cons, cellsC, xsO, pvF, toB_bool, true_or, or_true]
          by_cases h4 : o = 4
          · subst h4
            rw [if_pos (Or.inr (Or.inr rfl))]
            simp only [show decide ((4 : Int) < 3) = false from rfl, show decide ((4 : Int) > 8) = false from rfl, beq_self_eq_true, Bool.false_eq_true, if_false, if_true, h19, callB_some, okSp, needB_true, List.headD_cons, List.tail_cons, cellsC, xsO, pvF, toB_bool]
          · have b4 : ((o == (4 : Int)) : Bool) = false := by simpa using h4
            have mi : pcall C (n + (d + 1) + 109) 28 [vI o] = _ := s28m (n + (d + 1) + 108) o (by omega)
            rw [if_neg (by omega : ¬ (o < 3 ∨ o > 8 ∨ o = 4))]
            simp only [h3, h8, b4, decide_false, Bool.false_eq_true, if_false]
            simp only [i1, i2, callB_some, ok4, needB_true, List.headD_cons, fvF, pvF, toB_bool]
            by_cases j1 : isN (pE k1 o1 p1 q1 vk1 vn1 vt1 g1) (pE k2 o2 p2 q2 vk2 vn2 vt2 g2) c = true
            · simp only [j1, if_true, t1, callB_some, okSp, needB_true, List.headD_cons, List.tail_cons, cellsC, xsO, pvF, toB_bool]
            · simp only [j1, if_false, Bool.false_eq_true]
              by_cases j2 : isN (pE k2 o2 p2 q2 vk2 vn2 vt2 g2) (pE k1 o1 p1 q1 vk1 vn1 vt1 g1) c = true
              · simp only [j2, if_true, mi, o3, toI_int, fvF, pvF, needB_true, callB_some, List.headD_cons, t2, okSp, List.tail_cons, cellsC, xsO, toB_bool]
              · simp only [j2, if_false, Bool.false_eq_true, h19, callB_some, okSp, needB_true, List.headD_cons, List.tail_cons, cellsC, xsO, pvF, toB_bool]
      · have y2 : ((((gs.length : Nat) : Int) != (2 : Int)) : Bool) = true := by
          have : ((gs.length : Nat) : Int) ≠ 2 := by omega
          simpa using this
        have es : spanN (d + 1) (pE k o s1 s2 vk vn vt gs) c = allS := by
          show (if k ≠ 3 then allS else _) = _
          rw [if_neg (by omega)]
          match gs, hl with
          | [], _ => rfl
          | [_], _ => rfl
          | _ :: _ :: _ :: _, _ => rfl
        rw [es]
        simp only [y3, y2, ifB_eq, Bool.false_eq_true, if_false, if_true, h19, callB_some, okSp, needB_true, List.headD_cons, List.tail_cons, cellsC, xsO, pvF, toB_bool]
    · have y3 : ((k != (3 : Int)) : Bool) = true := by simpa using hk
      have es : spanN (d + 1) (pE k o s1 s2 vk vn vt gs) c = allS := by
        show (if k ≠ 3 then allS else _) = _
        rw [if_pos hk]
      rw [es]
      simp only [y3, ifB_eq, if_true, h19, callB_some, okSp, needB_true, List.headD_cons, List.tail_cons, cellsC, xsO, pvF, toB_bool]
end Go.Proofs.YtoaclbilkoeghaaDoor

open Go Go.Ev

set_option linter.unusedSimpArgs false

set_option linter.unusedVariables false

set_option maxHeartbeats 4000000

namespace Go.Proofs.YtoaclbilkoeghaaDoor
open X13 (Vl Rs pV pE vP vV IsE IsV argsOf eK eO eV valOf fewN evalN opN cmpN rightN sameV inI numV trueN nullV knownN compareBytes_eq)

theorem less_succ : ∀ (x k : List UInt8), Op.bytesLess x (k ++ [0]) = !Op.bytesLess k x
  | [], [] => by decide
  | [], b :: k => rfl
  | a :: x, [] => by
    show (decide (a < 0) || (a == 0 && Op.bytesLess x [])) = !true
    have h : ¬ a < 0 := UInt8.not_lt_zero
    have e : Op.bytesLess x [] = false := by cases x <;> rfl
    simp [h, e]
  | a :: x, b :: k => by
    show (decide (a < b) || (a == b && Op.bytesLess x (k ++ [0]))) = !(decide (b < a) || (b == a && Op.bytesLess k x))
    rw [less_succ x k]
    by_cases h1 : a < b
    · have n1 : ¬ b < a := fun h => UInt8.lt_irrefl a (UInt8.lt_trans h1 h)
      have n2 : ¬ b = a := fun h => UInt8.lt_irrefl b (h ▸ h1)
      simp [h1, n1, n2]
    · by_cases h2 : b < a
      · have n2 : ¬ a = b := fun h => UInt8.lt_irrefl b (h ▸ h2)
        simp [h1, h2, n2]
      · have e : a = b := UInt8.le_antisymm (UInt8.not_lt.1 h2) (UInt8.not_lt.1 h1)
        subst e
        simp [h1]
theorem less_nil (x : List UInt8) : Op.bytesLess x [] = false := by cases x <;> rfl
theorem cmpB_lt (a b : List UInt8) : (Lib.compareBytes a b < 0) ↔ Op.bytesLess a b = true := by
  rw [compareBytes_eq]
  by_cases e : a = b
  · subst e; simp [less_irrefl]
  · rw [if_neg e]
    cases h : Op.bytesLess a b <;> simp
theorem cmpB_anti (a b : List UInt8) : (Lib.compareBytes a b < 0) ↔ (Lib.compareBytes b a > 0) := by
  rw [cmpB_lt, gt_iff]
theorem cmpN_anti (v w : Vl) : (cmpN v w < 0) ↔ (cmpN w v > 0) := by
  have h := cmpB_anti v.t w.t
  unfold cmpN
  by_cases a1 : v.k < w.k
  · have a2 : ¬ w.k < v.k := by omega
    simp [a1, a2]
  · by_cases a2 : w.k < v.k
    · simp [a1, a2]
    · by_cases b1 : v.n < w.n
      · have b2 : ¬ w.n < v.n := by omega
        simp [a1, a2, b1, b2]
      · by_cases b2 : w.n < v.n
        · simp [a1, a2, b1, b2]
        · simp only [a1, a2, b1, b2, if_false]
          exact h
theorem key_null : (keyN ⟨0, 0, []⟩).1 = [0] := by decide
theorem key_num (n : Int) : (keyN ⟨1, n, []⟩).1 = 1 :: keyOf n := rfl
theorem right_text {t : List UInt8} (h : t.length ≤ 40) : rightN ⟨2, 0, t⟩ = 0 := by
  unfold rightN
  rw [if_neg (by simp), if_neg (by simp), if_neg (by simp), if_neg (by simpa using h)]
theorem key_text {t : List UInt8} (h : t.length ≤ 40) : (keyN ⟨2, 0, t⟩).1 = 2 :: tkey t := by
  unfold keyN
  rw [if_neg (by rw [right_text h]; simp)]
  rfl
theorem less_cons (a b : UInt8) (x y : List UInt8) : Op.bytesLess (a :: x) (b :: y) = (decide (a < b) || (a == b && Op.bytesLess x y)) := rfl
theorem nums_less (n m : Int) (ix : inI n) (iy : inI m) : Op.bytesLess (keyOf n) (keyOf m) = decide (n < m) := by
  by_cases e : n = m
  · subst e; rw [less_irrefl]; simp
  · have h := less_keys n m ix.1 ix.2 iy.1 iy.2 e [] []
    simpa using h
theorem texts_less (s t : List UInt8) : Op.bytesLess (tkey s) (tkey t) = Op.bytesLess s t := by
  by_cases e : s = t
  · subst e; rw [less_irrefl, less_irrefl]
  · have h := less_tkeys s t [] [] e
    simpa using h
theorem key_less (x y : Vl) (hx : rightN x = 0) (hy : rightN y = 0) (ix : inI x.n) (iy : inI y.n) : Op.bytesLess (keyN x).1 (keyN y).1 = decide (cmpN x y < 0) := by
  obtain ⟨k, n, t⟩ := x
  obtain ⟨k', n', t'⟩ := y
  have hc := cmpB_lt t t'
  rcases right0 hx with ⟨e1, e2, e3⟩ | ⟨e1, e2⟩ | ⟨e1, e2, e3⟩ <;> rcases right0 hy with ⟨f1, f2, f3⟩ | ⟨f1, f2⟩ | ⟨f1, f2, f3⟩ <;> dsimp only at e1 e2 f1 f2 <;> subst e1 <;> subst e2 <;> subst f1 <;> subst f2
  · dsimp only at e3 f3; subst e3; subst f3; decide
  · dsimp only at e3; subst e3
    rw [key_null, key_num]; rfl
  · dsimp only at e3; subst e3
    rw [key_null, key_text f3]; rfl
  · dsimp only at f3; subst f3
    rw [key_null, key_num]; rfl
  · rw [key_num, key_num, less_cons, nums_less _ _ ix iy]
    unfold cmpN
    simp only [Int.lt_irrefl, if_false]
    by_cases h1 : n < n'
    · simp [h1]
    · by_cases h2 : n' < n
      · simp [h1, h2]
      · simp only [h1, h2, if_false]
        decide
  · rw [key_num, key_text f3]; rfl
  · dsimp only at f3; subst f3
    rw [key_null, key_text e3]; rfl
  · rw [key_num, key_text e3]; rfl
  · rw [key_text e3, key_text f3, less_cons, texts_less]
    unfold cmpN
    simp only [Int.lt_irrefl, if_false]
    cases hb : Op.bytesLess t t' <;> rw [hb] at hc <;> simp_all
/-- A relation between two values. -/
def relN (o : Int) (c : Int) : Bool := if o = 3 then c == 0 else if o = 4 then c != 0 else if o = 5 then decide (c < 0) else if o = 6 then decide (c ≤ 0) else if o = 7 then decide (c > 0) else decide (c ≥ 0)
theorem in_test (o : Int) (v w : Vl) (ho : o = 3 ∨ o = 5 ∨ o = 6 ∨ o = 7 ∨ o = 8) (hv : rightN v = 0) (hw : rightN w = 0) (iv : inI v.n) (iw : inI w.n) (hk : v.k ≠ 0) : inN (testS o v) (keyN w).1 = relN o (cmpN w v) := by
  have l1 := key_less w v hw hv iw iv
  have l2 := key_less v w hv hw iv iw
  have a := cmpN_anti v w
  unfold testS
  rw [if_neg (by rw [hv]; simp), if_neg hk]
  unfold inN
  rcases ho with rfl | rfl | rfl | rfl | rfl
  · simp only [if_true, less_succ, l1, l2, relN]
    by_cases h1 : cmpN w v < 0
    · have : ¬ cmpN w v = 0 := by omega
      simp [h1, this]
    · by_cases h2 : cmpN v w < 0
      · have : ¬ cmpN w v = 0 := by have := a.1 h2; omega
        simp [h1, h2, this]
      · have : cmpN w v = 0 := by
          have : ¬ cmpN w v > 0 := fun h => h2 (a.2 h)
          omega
        simp [h1, h2, this]
  · simp [less_nil, l1, relN]
  · simp only [show ¬ (6 : Int) = 3 from by decide, show ¬ (6 : Int) = 5 from by decide, show ¬ (6 : Int) = 4 from by decide, if_true, if_false, less_succ, l2, less_nil, relN]
    by_cases h2 : cmpN v w < 0
    · have := a.1 h2
      have n : ¬ cmpN w v ≤ 0 := by omega
      simp [h2, n]
    · have : ¬ cmpN w v > 0 := fun h => h2 (a.2 h)
      have n : cmpN w v ≤ 0 := by omega
      simp [h2, n]
  · simp only [show ¬ (7 : Int) = 3 from by decide, show ¬ (7 : Int) = 5 from by decide, show ¬ (7 : Int) = 4 from by decide, show ¬ (7 : Int) = 6 from by decide, if_true, if_false, less_succ, l2, less_nil, relN]
    by_cases h2 : cmpN v w < 0
    · have := a.1 h2
      simp [h2, this]
    · have : ¬ cmpN w v > 0 := fun h => h2 (a.2 h)
      simp [h2, this]
  · simp only [show ¬ (8 : Int) = 3 from by decide, show ¬ (8 : Int) = 5 from by decide, show ¬ (8 : Int) = 4 from by decide, show ¬ (8 : Int) = 6 from by decide, show ¬ (8 : Int) = 7 from by decide, if_false, l1, relN]
    by_cases h1 : cmpN w v < 0
    · have : ¬ cmpN w v ≥ 0 := by omega
      simp [h1, this]
    · have : cmpN w v ≥ 0 := by omega
      simp [h1, this]
end Go.Proofs.YtoaclbilkoeghaaDoor

open Go Go.Ev

set_option linter.unusedSimpArgs false

set_option linter.unusedVariables false

set_option maxHeartbeats 4000000

namespace Go.Proofs.YtoaclbilkoeghaaDoor
open X13 (Vl Rs pV pE vP vV IsE IsV argsOf eK eO eV fewN evalN opN cmpN rightN sameV inI numV trueN nullV knownN twoR holdsN bothN testN yesV compareBytes_eq)

theorem isV_in {x : PV} (h : IsV x) : inI (X13.valOf x).n := by
  obtain ⟨k, n, t, rfl, h⟩ := h
  exact h
theorem isE_in {x : PV} (h : IsE x) : inI (eV x).n := by
  obtain ⟨k, o, s1, s2, vk, vn, vt, gs, rfl, hn, ha⟩ := h.inv
  exact hn
theorem in_all (k : List UInt8) : inN allS k = true := by
  unfold inN allS
  rw [less_nil]; rfl
theorem in_none (k : List UInt8) : inN noneS k = false := by
  unfold inN noneS
  rw [less_nil]; rfl
theorem s8 (n : Nat) : pcall C (n + 130) 8 [] = some ([vB true], []) := by kernel_rfl
theorem and_true (a b : Vl) (h : (opN 2 a b).e = 0) (ht : holdsN (opN 2 a b).v = true) : holdsN a = true ∧ holdsN b = true := by
  unfold opN at h ht
  by_cases c : (2 : Int) < 1 ∨ (2 : Int) > 13 ∨ rightN a ≠ 0 ∨ rightN b ≠ 0
  · rw [if_pos c] at h; exact absurd h (by decide)
  · rw [if_neg c, if_pos (by decide)] at h ht
    unfold bothN at h ht
    by_cases c2 : a.k = 2 ∨ b.k = 2
    · rw [if_pos c2] at h; exact absurd h (by decide)
    · rw [if_neg c2, if_neg (by decide)] at h ht
      by_cases c3 : ((a.k == 1 && a.n == 0) || (b.k == 1 && b.n == 0)) = true
      · rw [if_pos c3] at ht; exact absurd ht (by decide)
      · rw [if_neg c3] at h ht
        by_cases c4 : a.k = 0 ∨ b.k = 0
        · rw [if_pos c4] at ht; exact absurd ht (by decide)
        · have ra : rightN a = 0 := by
            by_cases r : rightN a = 0
            · exact r
            · exact absurd (Or.inr (Or.inr (Or.inl r))) c
          have rb : rightN b = 0 := by
            by_cases r : rightN b = 0
            · exact r
            · exact absurd (Or.inr (Or.inr (Or.inr r))) c
          have ka : a.k = 1 := by rcases right0 ra with ⟨k, _⟩ | ⟨k, _⟩ | ⟨k, _⟩ <;> omega
          have kb : b.k = 1 := by rcases right0 rb with ⟨k, _⟩ | ⟨k, _⟩ | ⟨k, _⟩ <;> omega
          unfold holdsN
          rw [ka, kb] at c3 ⊢
          simp at c3 ⊢
          exact c3
theorem rel_yes (b : Bool) (h : holdsN (yesV b) = true) : b = true := by
  cases b
  · exact absurd h (by decide)
  · rfl
theorem test_rel (o : Int) (a b : Vl) (ho : 3 ≤ o ∧ o ≤ 8) (h : (opN o a b).e = 0) (ht : holdsN (opN o a b).v = true) : a.k ≠ 0 ∧ b.k ≠ 0 ∧ rightN a = 0 ∧ rightN b = 0 ∧ relN o (cmpN a b) = true := by
  unfold opN at h ht
  by_cases c : o < 1 ∨ o > 13 ∨ rightN a ≠ 0 ∨ rightN b ≠ 0
  · rw [if_pos c] at h; exact absurd h (by decide)
  · rw [if_neg c, if_neg (by omega)] at h ht
    by_cases c4 : a.k = 0 ∨ b.k = 0
    · rw [if_pos c4] at ht; exact absurd ht (by decide)
    · rw [if_neg c4, if_pos ho.2] at h ht
      by_cases c5 : a.k ≠ b.k
      · rw [if_pos c5] at h; exact absurd h (by decide)
      · rw [if_neg c5] at h ht
        refine ⟨by omega, by omega, by omega, by omega, ?_⟩
        unfold testN at ht
        unfold relN
        dsimp only at ht
        repeat' split at ht
        all_goals have := rel_yes _ ht
        all_goals simp_all
theorem rel_mirror (o : Int) (a b : Vl) (ho : o = 3 ∨ o = 5 ∨ o = 6 ∨ o = 7 ∨ o = 8) (h : relN o (cmpN a b) = true) : relN (mirrorN o) (cmpN b a) = true := by
  have h1 := cmpN_anti a b
  have h2 := cmpN_anti b a
  rcases ho with rfl | rfl | rfl | rfl | rfl
  · simp [relN, mirrorN] at h ⊢; omega
  · simp [relN, mirrorN] at h ⊢; omega
  · simp [relN, mirrorN] at h ⊢; omega
  · simp [relN, mirrorN] at h ⊢; omega
  · simp [relN, mirrorN] at h ⊢; omega
theorem known_e {v : Vl} (h : (knownN v).e = 0) : rightN v = 0 ∧ (knownN v).v = v := by
  unfold knownN at h ⊢
  by_cases r : rightN v = 0
  · exact ⟨r, by rw [if_neg (by rw [r]; simp)]⟩
  · rw [if_pos r] at h; exact absurd h (by decide)
theorem isN_inv {x y : PV} {c : Int} (h : isN x y c = true) : eK x = 2 ∧ eV x = numV c ∧ eK y = 1 := by
  unfold isN at h
  simp only [Bool.and_eq_true, beq_iff_eq] at h
  exact ⟨h.1, (X13.sameV_iff _ _).1 h.2.1, h.2.2⟩
theorem two_inv {o : Int} {rx ry : Rs} (h : (twoR o rx ry).e = 0) : rx.e = 0 ∧ ry.e = 0 ∧ twoR o rx ry = opN o rx.v ry.v := by
  unfold twoR at h ⊢
  by_cases h1 : rx.e = 0
  · by_cases h2 : ry.e = 0
    · exact ⟨h1, h2, by rw [if_neg (by simpa using h1), if_neg (by simpa using h2)]⟩
    · rw [if_neg (by simpa using h1), if_pos h2] at h
      exact absurd h h2
  · rw [if_pos h1] at h
    exact absurd h h1
/-- A span misses no row that the whole says is true. -/
theorem misses : ∀ (d : Nat) (e : PV) (row : List PV) (c : Int), IsE e → (∀ x ∈ row, IsV x) → 0 ≤ c → c < (row.length : Int) → rightN (X13.valOf (nthP row c.toNat)) = 0 →
    (evalN d e row).e = 0 → holdsN (evalN d e row).v = true → inN (spanN d e c) (keyN (X13.valOf (nthP row c.toNat))).1 = true
  | 0, e, row, c, he, hr, c0, c1, hw, h, ht => in_all _
  | d + 1, e, row, c, he, hr, c0, c1, hw, h, ht => by
    obtain ⟨k, o, s1, s2, vk, vn, vt, gs, rfl, hn, ha⟩ := he.inv
    by_cases hk : k = 3
    · subst hk
      match gs, ha, h, ht with
      | [], _, _, _ => exact in_all _
      | [_], _, _, _ => exact in_all _
      | _ :: _ :: _ :: _, _, _, _ => exact in_all _
      | [x, y], ha, h, ht =>
        have es : spanN (d + 1) (pE 3 o s1 s2 vk vn vt [x, y]) c = if o = 2 then meetN (spanN d x c) (spanN d y c) else if o < 3 ∨ o > 8 ∨ o = 4 then allS
          else if isN x y c then testS o (eV y) else if isN y x c then testS (mirrorN o) (eV x) else allS := rfl
        have ee : evalN (d + 1) (pE 3 o s1 s2 vk vn vt [x, y]) row = twoR o (evalN d x row) (evalN d y row) := rfl
        rw [es]
        rw [ee] at h ht
        obtain ⟨hx, hy, e2⟩ := two_inv h
        rw [e2] at h ht
        have Ex := ha x (by simp)
        have Ey := ha y (by simp)
        by_cases ho2 : o = 2
        · subst ho2
          rw [if_pos rfl, in_meet]
          have t := and_true _ _ h ht
          rw [misses d x row c Ex hr c0 c1 hw hx t.1, misses d y row c Ey hr c0 c1 hw hy t.2]; rfl
        · rw [if_neg ho2]
          by_cases hb : o < 3 ∨ o > 8 ∨ o = 4
          · rw [if_pos hb]; exact in_all _
          · rw [if_neg hb]
            obtain ⟨ka, kb, ra, rb, rel⟩ := test_rel o _ _ (by omega) h ht
            have iw : inI (X13.valOf (nthP row c.toNat)).n := by
              have hl : c.toNat < row.length := by omega
              have := hr _ (List.getElem_mem hl)
              rw [← X13.nthP_lt hl] at this
              exact isV_in this
            by_cases j1 : isN x y c = true
            · rw [if_pos j1]
              obtain ⟨kx, vx, ky⟩ := isN_inv j1
              match d, hx, hy, ka, kb, ra, rb, rel with
              | 0, _, _, ka, _, _, _, _ => exact absurd rfl ka
              | d + 1, hx, hy, ka, kb, ra, rb, rel =>
                have e1 : evalN (d + 1) x row = knownN (X13.valOf (nthP row c.toNat)) := by
                  show (if eK x = 1 then _ else if eK x = 2 then _ else _) = _
                  rw [if_neg (by omega), if_pos kx, vx, if_pos ⟨rfl, c0, c1⟩]
                  rfl
                have e3 : evalN (d + 1) y row = knownN (eV y) := by
                  show (if eK y = 1 then _ else _) = _
                  rw [if_pos ky]
                rw [e1] at hx ka rel
                rw [e3] at hy kb rel
                rw [(known_e hx).2] at ka rel
                rw [(known_e hy).2] at kb rel
                rw [in_test o (eV y) _ (by omega) (known_e hy).1 hw (isE_in Ey) iw kb]
                exact rel
            · rw [if_neg j1]
              by_cases j2 : isN y x c = true
              · rw [if_pos j2]
                obtain ⟨kx, vx, ky⟩ := isN_inv j2
                match d, hx, hy, ka, kb, ra, rb, rel with
                | 0, _, _, ka, _, _, _, _ => exact absurd rfl ka
                | d + 1, hx, hy, ka, kb, ra, rb, rel =>
                  have e1 : evalN (d + 1) y row = knownN (X13.valOf (nthP row c.toNat)) := by
                    show (if eK y = 1 then _ else if eK y = 2 then _ else _) = _
                    rw [if_neg (by omega), if_pos kx, vx, if_pos ⟨rfl, c0, c1⟩]
                    rfl
                  have e3 : evalN (d + 1) x row = knownN (eV x) := by
                    show (if eK x = 1 then _ else _) = _
                    rw [if_pos ky]
                  rw [e1] at hy kb rel
                  rw [e3] at hx ka rel
                  rw [(known_e hy).2] at kb rel
                  rw [(known_e hx).2] at ka rel
                  have rm := rel_mirror o _ _ (by omega) rel
                  have om : mirrorN o = 3 ∨ mirrorN o = 5 ∨ mirrorN o = 6 ∨ mirrorN o = 7 ∨ mirrorN o = 8 := by
                    have : o = 3 ∨ o = 5 ∨ o = 6 ∨ o = 7 ∨ o = 8 := by omega
                    rcases this with rfl | rfl | rfl | rfl | rfl <;> decide
                  rw [in_test (mirrorN o) (eV x) _ om (known_e hx).1 hw (isE_in Ex) iw ka]
                  exact rm
              · rw [if_neg j2]; exact in_all _
    · have es : spanN (d + 1) (pE k o s1 s2 vk vn vt gs) c = allS := by
        show (if k ≠ 3 then allS else _) = _
        rw [if_pos hk]
      rw [es]
      exact in_all _
end Go.Proofs.YtoaclbilkoeghaaDoor

open Go Go.Ev

set_option linter.unusedSimpArgs false

set_option linter.unusedVariables false

set_option maxHeartbeats 4000000

namespace Go.Proofs.YtoaclbilkoeghaaDoor
open X13 (Vl Rs pV pE vP vV IsE IsV argsOf eK eO eV fewN evalN opN cmpN rightN sameV inI numV trueN nullV knownN twoR holdsN bothN testN yesV compareBytes_eq)

theorem q5 (n : Nat) (a b : Sp) (k : List UInt8) (h1 : a.f.length ≤ 140737488355328) (h2 : a.t.length ≤ 140737488355328) (h3 : b.f.length ≤ 140737488355328) (h4 : b.t.length ≤ 140737488355328) : pcall C (n + 201) 5 [vSd a, vSd b, vR k] = some ([vB true], []) := by
  rw [pcall_step (by rfl) (by rfl), f5_vestrylaw15_PlanBoth_eq]
  unfold f5_vestrylaw15_PlanBoth
  have c1 : pcall C (n + 200) 8 [] = _ := s8 (n + 70)
  have c2 : pcall C (n + 200) 18 [vSd a, vR k] = _ := s18i (n + 199) a k
  have c3 : pcall C (n + 200) 18 [vSd b, vR k] = _ := s18i (n + 199) b k
  have c4 : pcall C (n + 200) 15 [vSd a, vSd b] = _ := s15m (n + 198) a b h1 h2 h3 h4
  have c5 : pcall C (n + 200) 15 [vSd b, vSd a] = _ := s15m (n + 198) b a h3 h4 h1 h2
  have c6 : pcall C (n + 200) 19 [] = _ := s19a (n + 199)
  have c7 : pcall C (n + 200) 18 [vSd allS, vR k] = _ := s18i (n + 199) allS k
  have c8 : pcall C (n + 200) 20 [] = _ := s20a (n + 199)
  have c9 : pcall C (n + 200) 18 [vSd noneS, vR k] = _ := s18i (n + 199) noneS k
  have c10 : pcall C (n + 200) 18 [vSd (meetN a b), vR k] = _ := s18i (n + 199) (meetN a b) k
  have c11 : pcall C (n + 200) 11 [vSd (meetN a b), vSd (meetN b a)] = _ := s11s (n + 199) (meetN a b) (meetN b a)
  rw [decide_eq_true (meet_comm a b)] at c11
  simp only [c1, c2, c3, c4, c5, c6, c8, callB_some, ok4, okSp, needB_true, List.headD_cons, List.tail_cons, cellsC, xsO, fvF, pvF, toB_bool, ifB_eq]
  simp only [c7, c9, c10, c11, callB_some, ok4, needB_true, List.headD_cons, fvF, pvF, toB_bool, in_meet, in_all, in_none]
  cases inN a k <;> cases inN b k <;> simp
def colE (c : Int) : PV := pE 2 0 [] [] 1 c [] []
def litE (v : Vl) : PV := pE 1 0 [] [] v.k v.n v.t []
def twoE (o : Int) (v : Vl) : PV := pE 3 o [] [] 0 0 [] [colE 3, litE v]
theorem q6 (n : Nat) (o : Int) (v w : Vl) (iv : inI v.n) (iw : inI w.n) : pcall C (n + 201) 6 [vI o, vV v.k v.n v.t, vV w.k w.n w.t] = some ([vB true], []) := by
  rw [pcall_step (by rfl) (by rfl), f6_vestrylaw15_PlanPoints_eq]
  unfold f6_vestrylaw15_PlanPoints
  have c1 : pcall C (n + 200) 8 [] = _ := s8 (n + 70)
  have c2 : pcall C (n + 200) 21 [vV v.k v.n v.t] = _ := X13.s11 (n + 198) v.k v.n v.t
  have c3 : pcall C (n + 200) 21 [vV w.k w.n w.t] = _ := X13.s11 (n + 198) w.k w.n w.t
  have c4 : pcall C (n + 200) 22 [vI 3] = _ := X13.s17 (n + 199) 3
  have c5 : pcall C (n + 200) 23 [vV w.k w.n w.t] = _ := s23k (n + 100) w
  have c6 : pcall C (n + 200) 24 [vV w.k w.n w.t, vV v.k v.n v.t] = some ([vI (cmpN w v)], []) := X13.s41 (n + 193) w.k w.n w.t v.k v.n v.t
  have he : IsE (twoE o v) := IsE.mk 3 o [] [] 0 0 [] [colE 3, litE v] (by decide) (by
    intro x hx
    simp only [List.mem_cons, List.not_mem_nil, or_false] at hx
    rcases hx with rfl | rfl
    · exact IsE.mk 2 0 [] [] 1 3 [] [] (by decide) (by simp)
    · exact IsE.mk 1 0 [] [] v.k v.n v.t [] iv (by simp))
  have hs : spanN 2 (twoE o v) 3 = if o = 2 then meetN (spanN 1 (colE 3) 3) (spanN 1 (litE v) 3) else if o < 3 ∨ o > 8 ∨ o = 4 then allS
          else if isN (colE 3) (litE v) 3 then testS o v else if isN (litE v) (colE 3) 3 then testS (mirrorN o) (numV 3) else allS := rfl
  have hi : isN (colE 3) (litE v) 3 = true := rfl
  have c7 : pcall C (n + 200) 10 [vP (twoE o v), vI 3] = _ := s10s 2 (n + 88) (twoE o v) 3 he rfl
  have c8 : pcall C (n + 200) 18 [vSd (testS o v), vR (keyN w).1] = _ := s18i (n + 199) (testS o v) (keyN w).1
  have kl := keyN_err w
  simp only [c1, c2, c3, callB_some, ok_42, ok4, needB_true, List.headD_cons, List.tail_cons, cellsC, xsO, fvF, pvF, toB_bool, toI_int, ifB_eq]
  by_cases h1 : rightN v = 0
  · by_cases h2 : rightN w = 0
    · by_cases h3 : v.k = 0
      · have e3 : ((v.k == (0 : Int)) : Bool) = true := by rw [h3]; rfl
        simp only [h1, h2, e3, bne_self_eq_false, Bool.false_eq_true, if_false, if_true]
      · have e3 : ((v.k == (0 : Int)) : Bool) = false := by simpa using h3
        simp only [h1, h2, e3, bne_self_eq_false, Bool.false_eq_true, if_false, if_true]
        by_cases ho : o = 3 ∨ o = 5 ∨ o = 6 ∨ o = 7 ∨ o = 8
        · have hh : spanN 2 (twoE o v) 3 = testS o v := by
            rw [hs, if_neg (by omega), if_neg (by omega), if_pos hi]
          rw [hh] at c7
          have it := in_test o v w ho h1 h2 iv iw h3
          rw [kl, h2] at c5
          have x1 : decide (o < 3) = false := decide_eq_false (by omega)
          have x2 : decide (o > 8) = false := decide_eq_false (by omega)
          have x3 : ((o == (4 : Int)) : Bool) = false := by
            have : o ≠ 4 := by omega
            simpa using this
          simp only [x1, x2, x3, c4, c5, c6, callB_some, X13.ok23, X13.ok3, ok2942, needB_true, List.headD_cons, List.tail_cons, cellsA, cellsC, xsO, fvF, pvF, toB_bool, toI_int, X13.toS_str, Bool.false_eq_true, if_false]
          have c7' := c7
          unfold twoE colE litE at c7'
          simp only [c7', c8, callB_some, okSp, ok4, needB_true, List.headD_cons, List.tail_cons, cellsA, cellsC, xsO, fvF, pvF, toB_bool, toI_int, it]
          rcases ho with rfl | rfl | rfl | rfl | rfl <;> simp [relN] <;> exact decide_eq_decide.mpr Iff.rfl
        · by_cases y1 : o < 3
          · simp only [y1, decide_true, if_true]
          · by_cases y2 : o > 8
            · simp only [y1, y2, decide_true, decide_false, Bool.false_eq_true, if_false, if_true]
            · have y3 : o = 4 := by omega
              subst y3
              rfl
    · have e2 : ((rightN w != (0 : Int)) : Bool) = true := by simpa using h2
      simp only [h1, e2, bne_self_eq_false, Bool.false_eq_true, if_false, if_true]
  · have e1 : ((rightN v != (0 : Int)) : Bool) = true := by simpa using h1
    simp only [e1, if_true]
theorem q7 (n : Nat) (e : PV) (row : List PV) (c : Int) (he : IsE e) (hr : ∀ x ∈ row, IsV x) : pcall C (n + 201) 7 [vP e, .flat (.val (.sl (some 3) row)), vI c] = some ([vB true], []) := by
  have c3 : fewN 12 e = true → pcall C (n + 200) 25 [vP e, .flat (.val (.sl (some 3) row))] = _ := fun hf => X13.s18 row hr 12 (n + 177) e he hf
  have c5 : fewN 12 e = true → pcall C (n + 200) 10 [vP e, vI c] = _ := fun hf => s10s 12 (n + 78) e c he hf
  have c2 : pcall C (n + 200) 9 [vP e, vI 12] = _ := X13.s14 12 (n + 182) e he (by omega)
  have hm := fun a b d => misses 12 e row c he hr a b d
  obtain ⟨k, o, s1, s2, vk, vn, vt, gs, rfl, hn, ha⟩ := he.inv
  rw [pcall_step (by rfl) (by rfl), f7_vestrylaw15_PlanMisses_eq]
  unfold f7_vestrylaw15_PlanMisses
  have c1 : pcall C (n + 200) 8 [] = _ := s8 (n + 70)
  simp only [c1, c2, callB_some, ok4, needB_true, List.headD_cons, List.tail_cons, cellsC, xsO, fvF, pvF, toB_bool, toI_int, ifB_eq]
  by_cases hf : fewN 12 (pE k o s1 s2 vk vn vt gs) = true
  · have c3 := c3 hf
    have c5 := c5 hf
    simp only [hf, Bool.not_true, Bool.false_eq_true, if_false]
    by_cases h0 : c < 0
    · simp only [h0, decide_true, if_true]
    · by_cases h1 : c ≥ (row.length : Int)
      · simp only [h0, h1, decide_true, decide_false, Bool.false_eq_true, if_false, if_true]
      · have hl : c.toNat < row.length := by omega
        obtain ⟨k', n', t', er, hi⟩ : IsV (nthP row c.toNat) := by rw [X13.nthP_lt hl]; exact hr _ (List.getElem_mem hl)
        have hm := hm (by omega) (by omega)
        rw [er] at hm
        have ev : X13.valOf (pV k' n' t') = ⟨k', n', t'⟩ := rfl
        rw [ev] at hm
        have c4 : pcall C (n + 200) 23 [vV k' n' t'] = _ := s23k (n + 100) ⟨k', n', t'⟩
        have d0 : decide ((0 : Int) ≤ c) = true := decide_eq_true (by omega)
        have d1 : decide (c < (row.length : Int)) = true := decide_eq_true (by omega)
        have ht : hasT Go.Proofs.Tryd.prog 23 (pV k' n' t') = true := by kernel_rfl
        generalize spanN 12 (pE k o s1 s2 vk vn vt gs) c = S at hm c5
        generalize evalN 12 (pE k o s1 s2 vk vn vt gs) row = r at hm c3
        have c6 : pcall C (n + 200) 18 [vSd S, vR (keyN ⟨k', n', t'⟩).1] = _ := s18i (n + 199) S (keyN ⟨k', n', t'⟩).1
        rw [keyN_err] at c4
        simp only [h0, h1, decide_false, Bool.false_eq_true, if_false, c3, callB_some, X13.ok425, needB_true, d0, d1, er, ht, cellsA, List.headD_cons, List.tail_cons, fvF, pvF, toI_int, X13.toS_str, toB_bool, c4, ok2942]
        by_cases g1 : (trueN r).2 = 0
        · by_cases g2 : (trueN r).1 = true
          · by_cases g3 : rightN ⟨k', n', t'⟩ = 0
            · have re : r.e = 0 ∧ holdsN r.v = true := by
                unfold trueN at g1 g2
                split at g2
                · exact absurd g2 (by decide)
                · rename_i hh
                  rw [if_neg hh] at g1
                  exact ⟨g1, by simpa using (Bool.and_eq_true _ _ ▸ g2).2⟩
              simp only [g1, g2, g3, bne_self_eq_false, Bool.not_true, Bool.false_eq_true, if_false, if_true, c5, callB_some, okSp, needB_true, List.headD_cons, List.tail_cons, cellsC, xsO, fvF, pvF, toB_bool, c6, ok4, hm g3 re.1 re.2]
            · have e3 : ((rightN ⟨k', n', t'⟩ != (0 : Int)) : Bool) = true := by simpa using g3
              simp only [g1, g2, e3, bne_self_eq_false, Bool.not_true, Bool.false_eq_true, if_false, if_true]
          · have g2 : (trueN r).1 = false := by simpa using g2
            simp only [g1, g2, bne_self_eq_false, Bool.not_false, Bool.false_eq_true, if_false, if_true]
        · have e1 : (((trueN r).2 != (0 : Int)) : Bool) = true := by simpa using g1
          simp only [e1, if_true]
  · have hf : fewN 12 (pE k o s1 s2 vk vn vt gs) = false := by simpa using hf
    simp only [hf, Bool.not_false, if_true]
end Go.Proofs.YtoaclbilkoeghaaDoor

open Go Go.Ev

set_option linter.unusedSimpArgs false

set_option linter.unusedVariables false

set_option maxHeartbeats 4000000

namespace Go.Proofs.YtoaclbilkoeghaaDoor
open X13 (Vl Rs pV pE vP vV IsE IsV argsOf eK eO eV fewN evalN opN cmpN rightN sameV inI numV trueN nullV knownN twoR holdsN bothN testN yesV compareBytes_eq)

theorem pcall_frz {n : Nat} {f : FuncId} {args : List OV} (h : C.prim f = none) : pcall C (n + 1) f args = frzM (C.frz f) (callBody C (pcall C n) n f args) := by
  show (match C.prim f with
    | some p => p args
    | none => frzM (C.frz f) (callBody C (pcall C n) n f args)) = _
  rw [h]
/-- A span, as pure data. -/
theorem frz_sp (s : Sp) : frzM [true] (some ([vSp s], [])) = some ([vSd s], []) := rfl
theorem frz_sd (s : Sp) : frzM [true] (some ([vSd s], [])) = some ([vSd s], []) := rfl
theorem frz_mix (f : List UInt8) (e : Bool) : frzM [true] (some ([.cont .agg [.val (.sl none (bb f)), .own none [] [], .val (.bool e)]], [])) = some ([vSd ⟨f, [], e⟩], []) := rfl
theorem s16r (n : Nat) (a b : Sp) : pcall C (n + 1) 16 [vSd a, vSd b] = some ([vSd (meetN a b)], []) := by
  rw [pcall_frz (by rfl), f16_vestryref15_Meet_eq]
  have hf : C.frz 16 = [true] := rfl
  rw [hf]
  obtain ⟨af, aT, ae⟩ := a
  obtain ⟨bf, bt, be⟩ := b
  have k1 := gt_iff bf af
  have k2 := le_iff aT bt
  have k3 : (!(Op.bytesLess bf af || bf == af)) = decide (Lib.compareBytes bf af > 0) := by
    by_cases e : bf = af
    · subst e
      have : ¬ Lib.compareBytes bf bf > 0 := by rw [gt_iff, less_irrefl]; simp
      rw [decide_eq_false this]
      simp
    · have t := less_tri bf af e
      by_cases c : Lib.compareBytes bf af > 0
      · rw [decide_eq_true c]
        have := k1.1 c
        rw [t, this]
        simpa using e
      · rw [decide_eq_false c]
        have : Op.bytesLess af bf = false := by
          cases h : Op.bytesLess af bf
          · rfl
          · exact absurd (k1.2 h) c
        rw [t, this]
        simp
  unfold f16_vestryref15_Meet meetN
  dsimp only
  by_cases c1 : Lib.compareBytes bf af > 0 <;> by_cases c2 : Lib.compareBytes aT bt ≤ 0 <;> cases ae <;> cases be
  all_goals
    first
    | (have c2' : Op.bytesLess bt aT = false := k2.1 c2
       simp only [isByte_bb, needB_true, u8_bb, k3, c1, c2, c2', decide_true, decide_false, ifB_eq, Bool.not_true, Bool.not_false, Bool.false_eq_true, if_true, if_false, Bool.or_false, Bool.or_true, Bool.false_or, Bool.true_or]
       rfl)
    | (have c2' : Op.bytesLess bt aT = true := by
         cases h : Op.bytesLess bt aT
         · exact absurd (k2.2 h) c2
         · rfl
       simp only [isByte_bb, needB_true, u8_bb, k3, c1, c2, c2', decide_true, decide_false, ifB_eq, Bool.not_true, Bool.not_false, Bool.false_eq_true, if_true, if_false, Bool.or_false, Bool.or_true, Bool.false_or, Bool.true_or]
       rfl)
theorem s17k (n : Nat) (l : List UInt8) (hl : l.length + 1 ≤ 140737488355328) : pcall C (n + 1) 17 [vLent l, vR l] = some ([vB true], [vLent l, .flat .gone]) := s14 n l hl
theorem owned2 (n : Nat) (a b : List UInt8) : pcall C (n + 1) 13 [.cont .nest [.own none (bb a) [], .own none (bb b) []]] = some ([vB true], [.flat .gone]) :=
  s15 n [.own none (bb a) [], .own none (bb b) []] (by
    have h1 : isRowB (.own none (bb a) []) = true := by simp [isRowB, isByte_bb]
    have h2 : isRowB (.own none (bb b) []) = true := by simp [isRowB, isByte_bb]
    simp only [List.all_cons, h1, h2, List.all_nil]; rfl) (by simp)
theorem q4 (n : Nat) (a b : Sp) (h1 : a.f.length + 1 ≤ 140737488355328) (h2 : a.t.length + 1 ≤ 140737488355328) (h3 : b.f.length + 1 ≤ 140737488355328) (h4 : b.t.length + 1 ≤ 140737488355328) : pcall C (n + 201) 4 [vSd a, vSd b] = some ([vB true], []) := by
  rw [pcall_step (by rfl) (by rfl), f4_vestrylaw15_PlanMeets_eq]
  unfold f4_vestrylaw15_PlanMeets
  have c1 : pcall C (n + 200) 8 [] = _ := s8 (n + 70)
  have e1 : pcall C (n + 200) 14 [vR a.f] = _ := s9 (n + 199) a.f h1
  have e2 : pcall C (n + 200) 14 [vR a.t] = _ := s9 (n + 199) a.t h2
  have e3 : pcall C (n + 200) 14 [vR b.f] = _ := s9 (n + 199) b.f h3
  have e4 : pcall C (n + 200) 14 [vR b.t] = _ := s9 (n + 199) b.t h4
  have c4 : pcall C (n + 200) 15 [vSd a, vSd b] = _ := s15m (n + 198) a b (by omega) (by omega) (by omega) (by omega)
  have c5 : pcall C (n + 200) 16 [vSd a, vSd b] = _ := s16r (n + 199) a b
  have c6 : pcall C (n + 200) 11 [vSd (meetN a b), vSd (meetN a b)] = _ := s11s (n + 199) (meetN a b) (meetN a b)
  rw [decide_eq_true rfl] at c6
  have c7 : pcall C (n + 200) 13 [.cont .nest [.own none (bb (meetN a b).f) [], .own none (bb (meetN a b).t) []]] = _ := owned2 (n + 199) (meetN a b).f (meetN a b).t
  have g1 : pcall C (n + 200) 17 [vLent a.f, vR a.f] = _ := s17k (n + 199) a.f h1
  have g2 : pcall C (n + 200) 17 [vLent a.t, vR a.t] = _ := s17k (n + 199) a.t h2
  have g3 : pcall C (n + 200) 17 [vLent b.f, vR b.f] = _ := s17k (n + 199) b.f h3
  have g4 : pcall C (n + 200) 17 [vLent b.t, vR b.t] = _ := s17k (n + 199) b.t h4
  simp only [c1, e1, e2, e3, e4, callB_some, ok4, ok22s, needB_true, List.headD_cons, List.tail_cons, fvF, pvF, xsO, spO, toB_bool, ifB_eq]
  simp only [c4, c5, callB_some, okSp, okSd, needB_true, List.headD_cons, List.tail_cons, cellsC, cellsA, xsO, fvF, pvF, toB_bool, toL_sl]
  simp only [c6, c7, g1, g2, g3, g4, callB_some, ok4, out22s, needB_true, List.headD_cons, List.tail_cons, fvF, pvF, toB_bool, if_true]
end Go.Proofs.YtoaclbilkoeghaaDoor

open Go Go.Ev

set_option linter.unusedSimpArgs false

set_option linter.unusedVariables false

set_option maxHeartbeats 4000000

namespace Go.Proofs.YtoaclbilkoeghaaDoor

theorem rNum_loop (rec : Rec) (n : Nat) : ∀ (s : Nat) (v : Int) (t : List UInt8) (m : Nat), s ≤ 8 → s < m →
    f64_vestryref01_Num.l0 rec n m v (bb (List.replicate s 0 ++ t)) ((s : Int) - 1) = some ([vO (be s v ++ t)], [])
  | s, v, t, 0, h1, h2 => by omega
  | 0, v, t, m + 1, h1, h2 => by
    show f64_vestryref01_Num.l0.step rec n (f64_vestryref01_Num.l0 rec n m) _ _ _ = _
    unfold f64_vestryref01_Num.l0.step
    have c : ¬ (((0 : Nat) : Int) - 1 ≥ 0) := by omega
    simp only [c, decide_false, ifB_eq, Bool.false_eq_true, if_false, be, List.nil_append, List.replicate_zero]
  | s + 1, v, t, m + 1, h1, h2 => by
    show f64_vestryref01_Num.l0.step rec n (f64_vestryref01_Num.l0 rec n m) _ _ _ = _
    unfold f64_vestryref01_Num.l0.step
    have e : ((s + 1 : Nat) : Int) - 1 = (s : Int) := by omega
    rw [e]
    have c : ((s : Int) ≥ 0) := by omega
    have c' : ((0 : Int) ≤ (s : Int)) := by omega
    have ln : (List.replicate (s + 1) (0 : UInt8) ++ t).length = s + 1 + t.length := by simp
    have c2 : ((s : Int) < ((s + 1 + t.length : Nat) : Int)) := by omega
    have c3 : Nat.blt s (s + 1 + t.length) = true := by rw [Nat.blt_eq]; omega
    have w : IntKind.wrap .i64 ((s : Int) - 1) = (s : Int) - 1 := by rw [IntKind.wrap_i64]; omega
    have ed : Int.fdiv v ((2 : Int) ^ (min 8 (IntKind.bits .i64))) = v / 256 := by
      rw [show (2 : Int) ^ (min 8 (IntKind.bits .i64)) = 256 by decide, Int.fdiv_eq_ediv_of_nonneg _ (by decide)]
    have ih := rNum_loop rec n s (v / 256) (byteOf v :: t) m (by omega) (by omega)
    simp only [c, c', decide_true, needB_true, bb_length, ln, c2, c3, Int.toNat_natCast, ed, pvByte_of, bb_set, rep_set, w, ih, ifB_eq, if_true, be_last, List.append_assoc, List.cons_append, List.nil_append]
theorem s27 (n : Nat) (x : Int) : pcall C (n + 12) 64 [vI x] = some ([vO (be 8 x)], []) := by
  rw [pcall_step (by rfl) (by rfl), f64_vestryref01_Num_eq]
  unfold f64_vestryref01_Num f64_vestryref01_Num.pre
  have h := rNum_loop (pcall C (n + 11)) (n + 11) 8 x [] (n + 11) (by omega) (by omega)
  rw [List.append_nil, List.append_nil] at h
  have b : Nat.ble (1 * 8) 140737488355328 = true := by decide
  simp only [b, needB_true]
  exact h
theorem s28 (n : Nat) (x : Int) : pcall C (n + 13) 54 [vI x] = some ([vO (keyOf x)], []) := by
  rw [pcall_step (by rfl) (by rfl), f54_vestryref01_NumKey_eq]
  unfold f54_vestryref01_NumKey
  have h := s27 n x
  have hk : ∃ b r, be 8 x = b :: r := ⟨_, _, rfl⟩
  obtain ⟨b, r, hb⟩ := hk
  have hkey : keyOf x = (b ^^^ 128) :: r := by unfold keyOf; rw [hb]
  have n0 : nthP (bb (b :: r)) 0 = pvByte b := rfl
  have ti : PV.toI (pvByte b) = ((b.toNat : Nat) : Int) := rfl
  have l0 : Nat.blt 0 (bb (b :: r)).length = true := by rw [Nat.blt_eq, bb_length]; simp
  have c0 : (0 : Int) < (((bb (b :: r)).length : Nat) : Int) := by rw [bb_length]; simp only [List.length_cons]; omega
  have st : List.set (bb (b :: r)) 0 (pvByte (b ^^^ 128)) = bb ((b ^^^ 128) :: r) := rfl
  rw [hb] at h
  simp only [h, callB_some, ok22, needB_true, List.headD_cons, fvF, xsO, n0, hasT5, ti, l0, c0, decide_true, xor_byte, st, hkey]

/-! the laws' helpers -/
end Go.Proofs.YtoaclbilkoeghaaDoor

open Go Go.Ev

set_option linter.unusedSimpArgs false

set_option linter.unusedVariables false

set_option maxHeartbeats 4000000

namespace Go.Proofs.YtoaclbilkoeghaaDoor
open X13 (Vl Rs pV pE vP vV IsE IsV argsOf eK eO eV fewN evalN opN cmpN rightN sameV inI numV trueN nullV knownN twoR holdsN bothN testN yesV compareBytes_eq)

theorem s43r (n : Nat) (k m : Int) (t : List UInt8) : pcall C (n + 1) 43 [vV k m t] = some ([vI (rightN ⟨k, m, t⟩)], []) := X13.s27 n k m t
theorem s29i (n : Nat) (k o : Int) (s1 s2 : List UInt8) (vk vn : Int) (vt : List UInt8) (gs : List PV) (c : Int) :
    pcall C (n + 1) 29 [vP (pE k o s1 s2 vk vn vt gs), vI c] = some ([vB (k == 2 && sameV ⟨vk, vn, vt⟩ (numV c))], []) := by
  rw [pcall_step (by rfl) (by rfl), f29_vestryref15_is_eq]
  unfold f29_vestryref15_is
  simp only [ifB_eq, sameV, numV]
  cases (k == 2) <;> simp
theorem s30l (n : Nat) (k o : Int) (s1 s2 : List UInt8) (vk vn : Int) (vt : List UInt8) (gs : List PV) :
    pcall C (n + 2) 30 [vP (pE k o s1 s2 vk vn vt gs)] = some ([vB (k == 1 && rightN ⟨vk, vn, vt⟩ == 0)], []) := by
  rw [pcall_step (by rfl) (by rfl), f30_vestryref15_literal_eq]
  unfold f30_vestryref15_literal
  have h1 : pcall C (n + 1) 43 [vV vk vn vt] = _ := s43r n vk vn vt
  by_cases hk : k = 1
  · subst hk
    simp only [h1, callB_some, ok_42, needB_true, List.headD_cons, fvF, pvF, toI_int, ifB_eq, beq_self_eq_true, if_true, Bool.true_and]
  · have e : ((k == (1 : Int)) : Bool) = false := by simpa using hk
    simp only [e, ifB_eq, Bool.false_eq_true, if_false, Bool.false_and]
theorem s32m (n : Nat) (o : Int) (h : 3 ≤ o ∧ o ≤ 8) : pcall C (n + 1) 32 [vI o] = some ([vI (mirrorN o)], []) := by
  have hc : o = 3 ∨ o = 4 ∨ o = 5 ∨ o = 6 ∨ o = 7 ∨ o = 8 := by omega
  rw [pcall_step (by rfl) (by rfl), f32_vestryref15_mirror_eq]
  unfold f32_vestryref15_mirror mirrorN
  rcases hc with rfl | rfl | rfl | rfl | rfl | rfl <;> rfl
theorem s44n (n : Nat) : pcall C (n + 1) 44 [] = some ([vSd noneS], []) := by
  rw [pcall_frz (by rfl), f44_vestryref15_None_eq]
  rfl
theorem s54k (n : Nat) (x : Int) : pcall C (n + 100) 54 [vI x] = some ([vO (keyOf x)], []) := s28 (n + 87) x
theorem s55k (n : Nat) (t : List UInt8) (h : t.length ≤ 40) : pcall C (n + 100) 55 [.flat (.val (.str t))] = some ([vO (tkey t)], []) := s13' (n + 100) t (by omega) (by omega)
theorem s45k (n : Nat) (v : Vl) : pcall C (n + 200) 45 [vV v.k v.n v.t] = some ([vO (keyN v).1, vI (keyN v).2], []) := by
  obtain ⟨k, m, t⟩ := v
  rw [pcall_step (by rfl) (by rfl), f45_vestryref07_Key_eq]
  unfold f45_vestryref07_Key keyN
  have h1 : pcall C (n + 199) 43 [vV k m t] = _ := s43r (n + 198) k m t
  by_cases h0 : rightN ⟨k, m, t⟩ = 0
  · rw [h0] at h1
    have y0 : (((0 : Int) != (0 : Int)) : Bool) = false := rfl
    have h2 : pcall C (n + 199) 54 [vI m] = _ := s54k (n + 99) m
    have lk : (keyOf m).length = 8 := by rw [key_be, be_length]
    have l1 : ∀ x : PV, ([x] : List PV).length = 1 := fun _ => rfl
    rcases right0 h0 with ⟨e1, e2, e3⟩ | ⟨e1, e2⟩ | ⟨e1, e2, e3⟩ <;> dsimp only at e1 e2
    · subst e1
      simp only [h1, callB_some, ok_42, needB_true, List.headD_cons, fvF, pvF, toI_int, y0, ifB_eq, Bool.false_eq_true, if_false, show ((0 : Int) == 1) = false from rfl, show ((0 : Int) == 2) = false from rfl, h0, ne_eq, not_true_eq_false, show ¬ ((0 : Int) = 1) from by decide, show ¬ ((0 : Int) = 2) from by decide]
      rfl
    · subst e1
      have b1 : Nat.ble ((1 + 8) * 1) 140737488355328 = true := by decide
      have b2 : Nat.ble (1 + 8) 9223372036854775807 = true := by decide
      simp only [h1, callB_some, ok_42, ok22, needB_true, List.headD_cons, fvF, pvF, xsO, toI_int, y0, ifB_eq, Bool.false_eq_true, if_false, if_true, show ((1 : Int) == 1) = true from rfl, show ((1 : Int) == 2) = false from rfl, h0, ne_eq, not_true_eq_false, h2, bb_length, lk, l1, b1, b2]
      rfl
    · subst e1
      dsimp only at e3
      have h3 : pcall C (n + 199) 55 [.flat (.val (.str t))] = _ := s55k (n + 99) t e3
      have tl := tkey_len t
      have b1 : Nat.ble ((1 + (tkey t).length) * 1) 140737488355328 = true := by rw [Nat.ble_eq]; omega
      have b2 : Nat.ble (1 + (tkey t).length) 9223372036854775807 = true := by rw [Nat.ble_eq]; omega
      simp only [h1, callB_some, ok_42, ok22, needB_true, List.headD_cons, fvF, pvF, xsO, toI_int, y0, ifB_eq, Bool.false_eq_true, if_false, if_true, show ((2 : Int) == 1) = false from rfl, show ((2 : Int) == 2) = true from rfl, h0, ne_eq, not_true_eq_false, h3, bb_length, l1, b1, b2, show ¬ ((2 : Int) = 1) from by decide]
      rfl
  · have y0 : ((rightN ⟨k, m, t⟩ != (0 : Int)) : Bool) = true := by simpa using h0
    simp only [h1, callB_some, ok_42, needB_true, List.headD_cons, fvF, pvF, toI_int, y0, ifB_eq, if_true, ne_eq, h0, not_false_eq_true]
    rfl
theorem s31t (n : Nat) (o : Int) (v : Vl) (h0 : rightN v = 0) : pcall C (n + 201) 31 [vI o, vV v.k v.n v.t] = some ([vSd (testS o v)], []) := by
  rw [pcall_frz (by rfl), f31_vestryref15_test_eq]
  have hf : C.frz 31 = [true] := rfl
  rw [hf]
  unfold f31_vestryref15_test testS
  have h1 : pcall C (n + 200) 45 [vV v.k v.n v.t] = _ := s45k n v
  have h3 : pcall C (n + 200) 44 [] = _ := s44n (n + 199)
  have kl := key_len v
  have l1 : ∀ x : PV, ([x] : List PV).length = 1 := fun _ => rfl
  have n0 : ([] : List PV).length = 0 := rfl
  have b1 : Nat.ble ((0 + (keyN v).1.length) * 1) 140737488355328 = true := by rw [Nat.ble_eq]; omega
  have b2 : Nat.ble (0 + (keyN v).1.length) 9223372036854775807 = true := by rw [Nat.ble_eq]; omega
  have b3 : Nat.ble (((keyN v).1.length + 1) * 1) 140737488355328 = true := by rw [Nat.ble_eq]; omega
  have b4 : Nat.ble ((keyN v).1.length + 1) 9223372036854775807 = true := by rw [Nat.ble_eq]; omega
  have a0 : bb (keyN v).1 ++ [PV.int .u8 0] = bb ((keyN v).1 ++ [0]) := by simp [bb, pvByte]
  rw [keyN_err] at h1
  rw [if_neg (by rw [h0]; simp)]
  by_cases hk : v.k = 0
  · have e : ((v.k == (0 : Int)) : Bool) = true := by rw [hk]; rfl
    rw [if_pos hk]
    simp only [e, ifB_eq, if_true, h3, callB_some, okSd, needB_true, List.headD_cons, List.tail_cons, fvF, pvF, cellsA, toL_sl, toB_bool]
    rfl
  · have e : ((v.k == (0 : Int)) : Bool) = false := by simpa using hk
    rw [if_neg hk]
    simp only [h1, callB_some, ok2942, needB_true, List.headD_cons, List.tail_cons, fvF, pvF, xsO, ifB_eq, Bool.false_eq_true, if_false, e, n0, l1, bb_length, b1, b2, b3, b4, List.nil_append, a0]
    by_cases o3 : o = 3
    · simp only [o3, beq_self_eq_true, if_true]; rfl
    by_cases o5 : o = 5
    · simp only [o5, show ((5 : Int) == 3) = false from rfl, show ¬ ((5 : Int) = 3) from by decide, beq_self_eq_true, Bool.false_eq_true, if_true, if_false]; rfl
    by_cases o6 : o = 6
    · simp only [o6, show ((6 : Int) == 3) = false from rfl, show ((6 : Int) == 5) = false from rfl, show ¬ ((6 : Int) = 3) from by decide, show ¬ ((6 : Int) = 5) from by decide, beq_self_eq_true, Bool.false_eq_true, if_true, if_false]; rfl
    have f3 : ((o == (3 : Int)) : Bool) = false := by simpa using o3
    have f5 : ((o == (5 : Int)) : Bool) = false := by simpa using o5
    have f6 : ((o == (6 : Int)) : Bool) = false := by simpa using o6
    by_cases o7 : o = 7
    · have f7 : ((o == (7 : Int)) : Bool) = true := by simpa using o7
      simp only [f3, f5, f6, f7, o3, o5, o6, o7, Bool.false_eq_true, if_true, if_false, show ¬ ((7 : Int) = 3) from by decide, show ¬ ((7 : Int) = 5) from by decide, show ¬ ((7 : Int) = 6) from by decide]; rfl
    · have f7 : ((o == (7 : Int)) : Bool) = false := by simpa using o7
      simp only [f3, f5, f6, f7, o3, o5, o6, o7, Bool.false_eq_true, if_false]; rfl
theorem frz_all : frzM [true] (some ([OV.cont .agg [FV.own none [] [], FV.own none [] [], FV.val (PV.bool false)]], [])) = some ([vSd allS], []) := rfl
theorem s12s : ∀ (d n : Nat) (e : PV) (c : Int), IsE e → fewN d e = true → pcall C (n + d + 210) 12 [vP e, vI c] = some ([vSd (spanN d e c)], [])
  | 0, n, e, c, he, hf => by simp [fewN] at hf
  | d + 1, n, e, c, he, hf => by
    obtain ⟨k, o, s1, s2, vk, vn, vt, gs, rfl, hn, ha⟩ := he.inv
    rw [pcall_frz (by rfl), f12_vestryref15_Span_eq]
    have hfz : C.frz 12 = [true] := rfl
    rw [hfz]
    unfold f12_vestryref15_Span
    have hfa : ∀ x ∈ gs, fewN d x = true := fun x hx => by
      unfold fewN at hf
      simp only [Bool.and_eq_true] at hf
      exact List.all_eq_true.1 hf.2 x hx
    by_cases hk : k = 3
    · have y3 : ((k != (3 : Int)) : Bool) = false := by rw [hk]; rfl
      by_cases hl : gs.length = 2
      · have y2 : ((((gs.length : Nat) : Int) != (2 : Int)) : Bool) = false := by rw [hl]; rfl
        obtain ⟨x, y, rfl⟩ : ∃ x y, gs = [x, y] := by
          match gs, hl with
          | [x, y], _ => exact ⟨x, y, rfl⟩
        have hx := ha x (by simp)
        have hy := ha y (by simp)
        have rx : pcall C (n + (d + 1) + 209) 12 [vP x, vI c] = _ := s12s d n x c hx (hfa x (by simp))
        have ry : pcall C (n + (d + 1) + 209) 12 [vP y, vI c] = _ := s12s d n y c hy (hfa y (by simp))
        have hm : pcall C (n + (d + 1) + 209) 16 [vSd (spanN d x c), vSd (spanN d y c)] = _ := s16r (n + (d + 1) + 208) (spanN d x c) (spanN d y c)
        have es : spanN (d + 1) (pE k o s1 s2 vk vn vt [x, y]) c = if o = 2 then meetN (spanN d x c) (spanN d y c) else if o < 3 ∨ o > 8 ∨ o = 4 then allS
          else if isN x y c then testS o (eV y) else if isN y x c then testS (mirrorN o) (eV x) else allS := by
          show (if k ≠ 3 then allS else _) = _
          rw [if_neg (by omega)]
          rfl
        rw [es]
        obtain ⟨k1, o1, p1, q1, vk1, vn1, vt1, g1, ex, _, _⟩ := hx.inv
        obtain ⟨k2, o2, p2, q2, vk2, vn2, vt2, g2, ey, _, _⟩ := hy.inv
        subst ex
        subst ey
        have i1 : pcall C (n + (d + 1) + 209) 29 [vP (pE k1 o1 p1 q1 vk1 vn1 vt1 g1), vI c] = _ := s29i (n + (d + 1) + 208) k1 o1 p1 q1 vk1 vn1 vt1 g1 c
        have i2 : pcall C (n + (d + 1) + 209) 29 [vP (pE k2 o2 p2 q2 vk2 vn2 vt2 g2), vI c] = _ := s29i (n + (d + 1) + 208) k2 o2 p2 q2 vk2 vn2 vt2 g2 c
        have l1 : pcall C (n + (d + 1) + 209) 30 [vP (pE k1 o1 p1 q1 vk1 vn1 vt1 g1)] = _ := s30l (n + (d + 1) + 207) k1 o1 p1 q1 vk1 vn1 vt1 g1
        have l2 : pcall C (n + (d + 1) + 209) 30 [vP (pE k2 o2 p2 q2 vk2 vn2 vt2 g2)] = _ := s30l (n + (d + 1) + 207) k2 o2 p2 q2 vk2 vn2 vt2 g2
        have t1 : rightN ⟨vk2, vn2, vt2⟩ = 0 → pcall C (n + (d + 1) + 209) 31 [vI o, vV vk2 vn2 vt2] = _ := fun h => s31t (n + (d + 1) + 8) o ⟨vk2, vn2, vt2⟩ h
        have t2 : rightN ⟨vk1, vn1, vt1⟩ = 0 → pcall C (n + (d + 1) + 209) 31 [vI (mirrorN o), vV vk1 vn1 vt1] = _ := fun h => s31t (n + (d + 1) + 8) (mirrorN o) ⟨vk1, vn1, vt1⟩ h
        have a1 : isN (pE k1 o1 p1 q1 vk1 vn1 vt1 g1) (pE k2 o2 p2 q2 vk2 vn2 vt2 g2) c = ((k1 == 2 && sameV ⟨vk1, vn1, vt1⟩ (numV c)) && (k2 == 1)) := by
          unfold isN
          rw [X13.eK_pE, X13.eK_pE, X13.eV_pE, Bool.and_assoc]
        have a2 : isN (pE k2 o2 p2 q2 vk2 vn2 vt2 g2) (pE k1 o1 p1 q1 vk1 vn1 vt1 g1) c = ((k2 == 2 && sameV ⟨vk2, vn2, vt2⟩ (numV c)) && (k1 == 1)) := by
          unfold isN
          rw [X13.eK_pE, X13.eK_pE, X13.eV_pE, Bool.and_assoc]
        rw [X13.eV_pE, X13.eV_pE, a1, a2]
        have c0 : ((0 : Int) < ((([pE k1 o1 p1 q1 vk1 vn1 vt1 g1, pE k2 o2 p2 q2 vk2 vn2 vt2 g2] : List PV).length : Nat) : Int)) := by simp
        have c1 : ((1 : Int) < ((([pE k1 o1 p1 q1 vk1 vn1 vt1 g1, pE k2 o2 p2 q2 vk2 vn2 vt2 g2] : List PV).length : Nat) : Int)) := by simp
        have n0 : nthP [pE k1 o1 p1 q1 vk1 vn1 vt1 g1, pE k2 o2 p2 q2 vk2 vn2 vt2 g2] 0 = pE k1 o1 p1 q1 vk1 vn1 vt1 g1 := rfl
        have n1 : nthP [pE k1 o1 p1 q1 vk1 vn1 vt1 g1, pE k2 o2 p2 q2 vk2 vn2 vt2 g2] 1 = pE k2 o2 p2 q2 vk2 vn2 vt2 g2 := rfl
        have tx : hasT Go.Proofs.Tryd.prog 26 (pE k1 o1 p1 q1 vk1 vn1 vt1 g1) = true := X13.hasT35 _ _ _ _ _ _ _ _
        have ty : hasT Go.Proofs.Tryd.prog 26 (pE k2 o2 p2 q2 vk2 vn2 vt2 g2) = true := X13.hasT35 _ _ _ _ _ _ _ _
        have o3 : ∀ z : Int, okOs Go.Proofs.Tryd.prog [3] [] [vI z] = true := fun z => by kernel_rfl
        simp only [y3, y2, ifB_eq, Bool.false_eq_true, if_false, c0, c1, n0, n1, tx, ty, decide_true, needB_true, cellsA, List.headD_cons, List.tail_cons, toI_int, toS_str', toL_sl, X13.hasT3]
        by_cases ho2 : o = 2
        · subst ho2
          simp only [beq_self_eq_true, if_true]
          simp only [rx, ry, callB_some, okSd, needB_true, List.headD_cons, List.tail_cons, cellsA, fvF, pvF, toL_sl, toB_bool, hm]
          rfl
        · have b2 : ((o == (2 : Int)) : Bool) = false := by simpa using ho2
          simp only [b2, Bool.false_eq_true, if_false, ho2]
          by_cases h3 : o < 3
          · simp only [h3, decide_true, if_true, true_or]
            rfl
          by_cases h8 : o > 8
          · simp only [h3, h8, decide_true, decide_false, Bool.false_eq_true, if_false, if_true, true_or, or_true]
            rfl
          by_cases h4 : o = 4
          · subst h4
            rw [if_pos (Or.inr (Or.inr rfl))]
            simp only [show decide ((4 : Int) < 3) = false from rfl, show decide ((4 : Int) > 8) = false from rfl, beq_self_eq_true, Bool.false_eq_true, if_false, if_true]
            rfl
          · have b4 : ((o == (4 : Int)) : Bool) = false := by simpa using h4
            have mi : pcall C (n + (d + 1) + 209) 32 [vI o] = _ := s32m (n + (d + 1) + 208) o (by omega)
            rw [if_neg (by omega : ¬ (o < 3 ∨ o > 8 ∨ o = 4))]
            simp only [h3, h8, b4, decide_false, Bool.false_eq_true, if_false]
            simp only [i1, i2, l1, l2, callB_some, ok4, needB_true, List.headD_cons, fvF, pvF, toB_bool]
            have te1 : ∀ r : Int, r ≠ 0 → ∀ q : Vl, rightN q = r → testS o q = allS := fun r hr q hq => by
              unfold testS; rw [if_pos (by rw [hq]; exact hr)]
            have te2 : ∀ r : Int, r ≠ 0 → ∀ q : Vl, rightN q = r → testS (mirrorN o) q = allS := fun r hr q hq => by
              unfold testS; rw [if_pos (by rw [hq]; exact hr)]
            by_cases A1 : (k1 == 2 && sameV ⟨vk1, vn1, vt1⟩ (numV c)) = true
            · have hk1 : k1 = 2 := by
                simp only [Bool.and_eq_true, beq_iff_eq] at A1; exact A1.1
              have f1 : ((k1 == (1 : Int)) : Bool) = false := by rw [hk1]; rfl
              simp only [A1, f1, Bool.true_and, Bool.and_false, Bool.false_and, if_true, Bool.false_eq_true, if_false]
              by_cases K2 : k2 = 1
              · have g1 : ((k2 == (1 : Int)) : Bool) = true := by rw [K2]; rfl
                have g2 : ((k2 == (2 : Int)) : Bool) = false := by rw [K2]; rfl
                simp only [g1, g2, Bool.true_and, Bool.false_and, if_true, Bool.false_eq_true, if_false]
                by_cases R2 : rightN ⟨vk2, vn2, vt2⟩ = 0
                · simp only [R2, beq_self_eq_true, if_true, t1 R2, callB_some, okSd, needB_true, List.headD_cons, List.tail_cons, cellsA, fvF, pvF, toL_sl, toB_bool]
                  rfl
                · have r2 : ((rightN ⟨vk2, vn2, vt2⟩ == (0 : Int)) : Bool) = false := by simpa using R2
                  rw [te1 _ R2 _ rfl]
                  simp only [r2, Bool.false_eq_true, if_false]
                  rfl
              · have g1 : ((k2 == (1 : Int)) : Bool) = false := by simpa using K2
                simp only [g1, Bool.false_and, Bool.false_eq_true, if_false]
                cases (k2 == 2 && sameV ⟨vk2, vn2, vt2⟩ (numV c)) <;> rfl
            · have A1 : (k1 == 2 && sameV ⟨vk1, vn1, vt1⟩ (numV c)) = false := by simpa using A1
              simp only [A1, Bool.false_and, Bool.false_eq_true, if_false]
              by_cases A2 : (k2 == 2 && sameV ⟨vk2, vn2, vt2⟩ (numV c)) = true
              · simp only [A2, Bool.true_and, if_true]
                by_cases K1 : k1 = 1
                · have g1 : ((k1 == (1 : Int)) : Bool) = true := by rw [K1]; rfl
                  simp only [g1, Bool.true_and, if_true]
                  by_cases R1 : rightN ⟨vk1, vn1, vt1⟩ = 0
                  · simp only [R1, beq_self_eq_true, if_true, mi, o3, t2 R1, callB_some, okSd, needB_true, List.headD_cons, List.tail_cons, cellsA, fvF, pvF, toI_int, toL_sl, toB_bool]
                    rfl
                  · have r1 : ((rightN ⟨vk1, vn1, vt1⟩ == (0 : Int)) : Bool) = false := by simpa using R1
                    rw [te2 _ R1 _ rfl]
                    simp only [r1, Bool.false_eq_true, if_false]
                    rfl
                · have g1 : ((k1 == (1 : Int)) : Bool) = false := by simpa using K1
                  simp only [g1, Bool.false_and, Bool.false_eq_true, if_false]
                  rfl
              · have A2 : (k2 == 2 && sameV ⟨vk2, vn2, vt2⟩ (numV c)) = false := by simpa using A2
                simp only [A2, Bool.false_and, Bool.false_eq_true, if_false]
                rfl
      · have y2 : ((((gs.length : Nat) : Int) != (2 : Int)) : Bool) = true := by
          have : ((gs.length : Nat) : Int) ≠ 2 := by omega
          simpa using this
        have es : spanN (d + 1) (pE k o s1 s2 vk vn vt gs) c = allS := by
          show (if k ≠ 3 then allS else _) = _
          rw [if_neg (by omega)]
          match gs, hl with
          | [], _ => rfl
          | [_], _ => rfl
          | _ :: _ :: _ :: _, _ => rfl
        rw [es]
        simp only [y3, y2, ifB_eq, Bool.false_eq_true, if_false, if_true]
        rfl
    · have y3 : ((k != (3 : Int)) : Bool) = true := by simpa using hk
      have es : spanN (d + 1) (pE k o s1 s2 vk vn vt gs) c = allS := by
        show (if k ≠ 3 then allS else _) = _
        rw [if_pos hk]
      rw [es]
      simp only [y3, ifB_eq, if_true]
      rfl
theorem wrap12 : IntKind.wrap .i64 ((0 : Int) + 1) = 1 := by decide
theorem wrap22 : IntKind.wrap .i64 ((1 : Int) + 1) = 2 := by decide
theorem q3 (n : Nat) (e : PV) (c : Int) (he : IsE e) : pcall C (n + 301) 3 [vP e, vI c] = some ([vB true], []) := by
  have c2 : pcall C (n + 300) 9 [vP e, vI 12] = _ := X13.s14 12 (n + 282) e he (by omega)
  have c3 : fewN 12 e = true → pcall C (n + 300) 10 [vP e, vI c] = _ := fun hf => s10s 12 (n + 178) e c he hf
  have c4 : fewN 12 e = true → pcall C (n + 300) 12 [vP e, vI c] = _ := fun hf => s12s 12 (n + 78) e c he hf
  obtain ⟨k, o, s1, s2, vk, vn, vt, gs, rfl, hn, ha⟩ := he.inv
  rw [pcall_step (by rfl) (by rfl), f3_vestrylaw15_PlanSpans_eq]
  unfold f3_vestrylaw15_PlanSpans f3_vestrylaw15_PlanSpans.pre
  have c1 : pcall C (n + 300) 8 [] = _ := s8 (n + 170)
  simp only [c1, c2, callB_some, ok4, needB_true, List.headD_cons, List.tail_cons, fvF, pvF, toB_bool, ifB_eq]
  by_cases hf : fewN 12 (pE k o s1 s2 vk vn vt gs) = true
  · have c3 := c3 hf
    have c4 := c4 hf
    generalize spanN 12 (pE k o s1 s2 vk vn vt gs) c = S at c3 c4
    have c6 : pcall C (n + 300) 11 [vSd S, vSd S] = _ := s11s (n + 299) S S
    rw [decide_eq_true rfl] at c6
    have c7 : pcall C (n + 300) 13 [.cont .nest [.own none (bb S.f) [], .own none (bb S.t) []]] = _ := owned2 (n + 299) S.f S.t
    have step : ∀ (self : Int → Int → Int → List UInt8 → List UInt8 → Int → Int → List UInt8 → List PV → Bool → Int → Option (List OV × List OV)) (i : Int), i < 2 →
        f3_vestrylaw15_PlanSpans.l0.step (pcall C (n + 300)) (n + 300) self c k o s1 s2 vk vn vt gs true i = self c k o s1 s2 vk vn vt gs true (IntKind.wrap .i64 (i + 1)) := by
      intro self i hi
      unfold f3_vestrylaw15_PlanSpans.l0.step
      simp only [hi, decide_true, ifB_eq, if_true, c3, c4, callB_some, okSp, okSd, needB_true, List.headD_cons, List.tail_cons, cellsC, cellsA, xsO, fvF, pvF, toB_bool, toL_sl, c6, c7, ok4, Bool.not_true, Bool.false_eq_true, if_false]
    have fin : ∀ (self : Int → Int → Int → List UInt8 → List UInt8 → Int → Int → List UInt8 → List PV → Bool → Int → Option (List OV × List OV)),
        f3_vestrylaw15_PlanSpans.l0.step (pcall C (n + 300)) (n + 300) self c k o s1 s2 vk vn vt gs true 2 = some ([vB true], []) := fun self => rfl
    simp only [hf, Bool.not_true, Bool.false_eq_true, if_false]
    show f3_vestrylaw15_PlanSpans.l0.step (pcall C (n + 300)) (n + 300) (f3_vestrylaw15_PlanSpans.l0 (pcall C (n + 300)) (n + 300) (n + 299)) c k o s1 s2 vk vn vt gs true 0 = _
    rw [step _ 0 (by decide), wrap12]
    show f3_vestrylaw15_PlanSpans.l0.step (pcall C (n + 300)) (n + 300) (f3_vestrylaw15_PlanSpans.l0 (pcall C (n + 300)) (n + 300) (n + 298)) c k o s1 s2 vk vn vt gs true 1 = _
    rw [step _ 1 (by decide), wrap22]
    show f3_vestrylaw15_PlanSpans.l0.step (pcall C (n + 300)) (n + 300) (f3_vestrylaw15_PlanSpans.l0 (pcall C (n + 300)) (n + 300) (n + 297)) c k o s1 s2 vk vn vt gs true 2 = _
    exact fin _
  · have hf : fewN 12 (pE k o s1 s2 vk vn vt gs) = false := by simpa using hf
    simp only [hf, Bool.not_false, if_true]
end Go.Proofs.YtoaclbilkoeghaaDoor

