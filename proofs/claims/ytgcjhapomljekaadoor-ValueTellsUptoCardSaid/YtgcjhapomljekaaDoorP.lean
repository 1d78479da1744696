/- What the functions answer, and the laws. -/
import Derived.Test.YtgcjhapomljekaaDoorX

set_option linter.unusedVariables false

set_option linter.unusedSimpArgs false

set_option linter.unusedSectionVars false

open Go Go.Ev

set_option linter.unusedSimpArgs false

set_option linter.unusedVariables false

set_option maxHeartbeats 4000000

namespace Go.Proofs.YtgcjhapomljekaaDoor

theorem s10 (n : Nat) : pcall C (n + 130) 10 [] = some ([vB true], []) := by kernel_rfl
end Go.Proofs.YtgcjhapomljekaaDoor

open Go Go.Ev

set_option linter.unusedSimpArgs false

set_option linter.unusedVariables false

set_option maxHeartbeats 4000000

namespace Go.Proofs.YtgcjhapomljekaaDoor
open X13 (Vl Rs vV cmpN rightN sameV inI numV nullV knownN compareBytes_eq)

theorem wrap_nat' (i : Nat) (h : i < 9223372036854775807) : IntKind.wrap .i64 ((i : Int) + 1) = ((i + 1 : Nat) : Int) := wrap_nat i h
/-- A span. -/
structure Sp where
  f : List UInt8
  t : List UInt8
  e : Bool
  deriving DecidableEq
abbrev vSp (s : Sp) : OV := .cont .agg [.own none (bb s.f) [], .own none (bb s.t) [], .val (.bool s.e)]
abbrev vSd (s : Sp) : OV := .flat (.val (.agg [.sl none (bb s.f), .sl none (bb s.t), .bool s.e]))
theorem hasT4 (b : Bool) : hasT Go.Proofs.Tryd.prog 4 (.bool b) = true := by kernel_rfl
theorem cellsC (k : CK) (l : List FV) : OV.cells (.cont k l) = l := rfl
theorem cellsA (l : List PV) : PV.cells (.agg l) = l := rfl
theorem toS_str' (s : List UInt8) : PV.toS (.str s) = s := rfl
def allS : Sp := ⟨[], [], false⟩
def noneS : Sp := ⟨[], [], true⟩
def meetN (a b : Sp) : Sp := ⟨if Lib.compareBytes b.f a.f > 0 then b.f else a.f, if a.e then (if b.e then (if Lib.compareBytes a.t b.t ≤ 0 then a.t else b.t) else a.t) else if b.e then b.t else [], a.e || b.e⟩
def inN (s : Sp) (k : List UInt8) : Bool := (!(Op.bytesLess k s.f)) && (!s.e || Op.bytesLess k s.t)
theorem less_irrefl : ∀ a : List UInt8, Op.bytesLess a a = false
  | [] => rfl
  | x :: r => by simp [Op.bytesLess, less_irrefl r, UInt8.lt_irrefl]
theorem cmp_pos (x y : List UInt8) : (Lib.compareBytes x y > 0) ↔ (x ≠ y ∧ Op.bytesLess x y = false) := by
  rw [compareBytes_eq]
  by_cases h : x = y
  · simp [h]
  · by_cases h2 : Op.bytesLess x y = true
    · simp [h, h2]
    · have : Op.bytesLess x y = false := by simpa using h2
      simp [h, this]
theorem less_tri : ∀ (x y : List UInt8), x ≠ y → Op.bytesLess x y = !Op.bytesLess y x
  | [], [], h => absurd rfl h
  | [], y :: t, _ => rfl
  | x :: s, [], _ => rfl
  | x :: s, y :: t, h => by
    simp only [Op.bytesLess]
    by_cases hxy : x = y
    · subst hxy
      have hne : s ≠ t := fun e => h (by rw [e])
      simp [UInt8.lt_irrefl, less_tri s t hne]
    · have hyx : ¬ y = x := fun e => hxy e.symm
      have e1 : (x == y) = false := by simpa using hxy
      have e2 : (y == x) = false := by simpa using hyx
      rw [e1, e2, Bool.false_and, Bool.false_and, Bool.or_false, Bool.or_false]
      have : x < y ∨ y < x := by
        rcases UInt8.lt_or_lt_of_ne hxy with h | h
        · exact .inl h
        · exact .inr h
      rcases this with h1 | h1
      · rw [decide_eq_true h1, decide_eq_false (UInt8.lt_asymm h1)]; rfl
      · rw [decide_eq_false (UInt8.lt_asymm h1), decide_eq_true h1]; rfl
theorem less_trans : ∀ (x y z : List UInt8), Op.bytesLess x y = true → Op.bytesLess y z = true → Op.bytesLess x z = true
  | [], [], z, h1, h2 => by simp [Op.bytesLess] at h1
  | [], y :: t, [], h1, h2 => by simp [Op.bytesLess] at h2
  | [], y :: t, z :: u, h1, h2 => rfl
  | x :: s, [], z, h1, h2 => by simp [Op.bytesLess] at h1
  | x :: s, y :: t, [], h1, h2 => by simp [Op.bytesLess] at h2
  | x :: s, y :: t, z :: u, h1, h2 => by
    simp only [Op.bytesLess, Bool.or_eq_true, decide_eq_true_eq, Bool.and_eq_true, beq_iff_eq] at h1 h2 ⊢
    rcases h1 with h1 | ⟨rfl, h1⟩ <;> rcases h2 with h2 | ⟨rfl, h2⟩
    · exact .inl (UInt8.lt_trans h1 h2)
    · exact .inl h1
    · exact .inl h2
    · exact .inr ⟨rfl, less_trans s t u h1 h2⟩
theorem gt_iff (x y : List UInt8) : (Lib.compareBytes x y > 0) ↔ Op.bytesLess y x = true := by
  rw [cmp_pos]
  by_cases h : x = y
  · subst h; simp [less_irrefl]
  · have := less_tri y x (fun e => h e.symm)
    cases hxy : Op.bytesLess x y <;> simp [h, this, hxy]
theorem le_iff (x y : List UInt8) : (Lib.compareBytes x y ≤ 0) ↔ Op.bytesLess y x = false := by
  have := gt_iff x y
  constructor
  · intro h
    cases hb : Op.bytesLess y x with
    | false => rfl
    | true => have := this.2 hb; omega
  · intro h
    by_cases h2 : 0 < Lib.compareBytes x y
    · rw [this.1 h2] at h; cases h
    · omega
/-- Below the greater of two just if below one. -/
theorem not_less_max (k x y : List UInt8) : (!Op.bytesLess k (if Lib.compareBytes y x > 0 then y else x)) = (!Op.bytesLess k x && !Op.bytesLess k y) := by
  by_cases h : Lib.compareBytes y x > 0
  · rw [if_pos h]
    have hxy := (gt_iff y x).1 h
    cases hk : Op.bytesLess k x with
    | true => rw [less_trans k x y hk hxy]; rfl
    | false => simp
  · rw [if_neg h]
    have hxy : Op.bytesLess x y = false := by
      cases hb : Op.bytesLess x y with
      | false => rfl
      | true => exact absurd ((gt_iff y x).2 hb) h
    cases hk : Op.bytesLess k y with
    | false => simp
    | true =>
      have : Op.bytesLess k x = true := by
        by_cases e : x = y
        · rw [e]; exact hk
        · have hyx : Op.bytesLess y x = true := by
            have := less_tri y x (fun e' => e e'.symm)
            rw [hxy] at this; simpa using this
          exact less_trans k y x hk hyx
      simp [this]
theorem less_min (k x y : List UInt8) : Op.bytesLess k (if Lib.compareBytes x y ≤ 0 then x else y) = (Op.bytesLess k x && Op.bytesLess k y) := by
  by_cases h : Lib.compareBytes x y ≤ 0
  · rw [if_pos h]
    have hyx := (le_iff x y).1 h
    cases hk : Op.bytesLess k x with
    | false => rfl
    | true =>
      by_cases e : x = y
      · rw [← e, hk]; rfl
      · have : Op.bytesLess x y = true := by
          have := less_tri x y e
          rw [hyx] at this; simpa using this
        rw [less_trans k x y hk this]; rfl
  · rw [if_neg h]
    have hyx := (gt_iff x y).1 (by omega)
    cases hk : Op.bytesLess k y with
    | false => simp
    | true => rw [less_trans k y x hk hyx]; rfl
theorem in_meet (a b : Sp) (k : List UInt8) : inN (meetN a b) k = (inN a k && inN b k) := by
  obtain ⟨af, aT, ae⟩ := a
  obtain ⟨bf, bt, be⟩ := b
  simp only [inN, meetN]
  rw [not_less_max]
  cases ae <;> cases be <;> simp only [Bool.or_false, Bool.or_true, Bool.false_or, Bool.true_or, Bool.not_true, Bool.not_false, if_true, if_false, Bool.false_eq_true, Bool.true_and, Bool.and_true]
  · cases (!Op.bytesLess k af) <;> cases (!Op.bytesLess k bf) <;> simp
  · cases (!Op.bytesLess k af) <;> cases (!Op.bytesLess k bf) <;> cases Op.bytesLess k aT <;> simp
  · rw [less_min]
    cases (!Op.bytesLess k af) <;> cases (!Op.bytesLess k bf) <;> cases Op.bytesLess k aT <;> cases Op.bytesLess k bt <;> simp
theorem meet_comm (a b : Sp) : meetN a b = meetN b a := by
  obtain ⟨af, aT, ae⟩ := a
  obtain ⟨bf, bt, be⟩ := b
  have e1 : (if Lib.compareBytes bf af > 0 then bf else af) = (if Lib.compareBytes af bf > 0 then af else bf) := by
    by_cases e : af = bf
    · subst e; split <;> rfl
    · have h1 := gt_iff bf af
      have h2 := gt_iff af bf
      have h3 := less_tri af bf e
      cases h : Op.bytesLess af bf
      · rw [h] at h1 h3
        have h4 : Op.bytesLess bf af = true := by simpa using h3.symm
        rw [h4] at h2
        rw [if_neg (by rw [h1]; simp), if_pos (by rw [h2])]
      · rw [h] at h1 h3
        have h4 : Op.bytesLess bf af = false := by simpa using h3.symm
        rw [h4] at h2
        rw [if_pos (by rw [h1]), if_neg (by rw [h2]; simp)]
  have e2 : (if Lib.compareBytes aT bt ≤ 0 then aT else bt) = (if Lib.compareBytes bt aT ≤ 0 then bt else aT) := by
    by_cases e : aT = bt
    · subst e; split <;> rfl
    · have h1 := le_iff aT bt
      have h2 := le_iff bt aT
      have h3 := less_tri aT bt e
      cases h : Op.bytesLess aT bt
      · rw [h] at h2 h3
        have h4 : Op.bytesLess bt aT = true := by simpa using h3.symm
        rw [h4] at h1
        rw [if_neg (by rw [h1]; simp), if_pos (by rw [h2])]
      · rw [h] at h2 h3
        have h4 : Op.bytesLess bt aT = false := by simpa using h3.symm
        rw [h4] at h1
        rw [if_pos (by rw [h1]), if_neg (by rw [h2]; simp)]
  unfold meetN
  dsimp only
  rw [e1]
  cases ae <;> cases be <;> simp only [if_true, if_false, Bool.false_eq_true, Bool.or_false, Bool.or_true, Bool.false_or, Bool.true_or]
  rw [e2]
end Go.Proofs.YtgcjhapomljekaaDoor

open Go Go.Ev

set_option linter.unusedSimpArgs false

set_option linter.unusedVariables false

set_option maxHeartbeats 4000000

namespace Go.Proofs.YtgcjhapomljekaaDoor
open X13 (Vl Rs vV cmpN rightN sameV inI numV nullV knownN compareBytes_eq)

theorem right0 {v : Vl} (h : rightN v = 0) : (v.k = 0 ∧ v.n = 0 ∧ v.t = []) ∨ (v.k = 1 ∧ v.t = []) ∨ (v.k = 2 ∧ v.n = 0 ∧ v.t.length ≤ 40) := by
  unfold rightN at h
  split at h
  · omega
  · split at h
    · omega
    · split at h
      · omega
      · split at h
        · omega
        · rename_i h1 h2 h3 h4
          have hk : v.k = 0 ∨ v.k = 1 ∨ v.k = 2 := by omega
          rcases hk with hk | hk | hk
          · exact .inl ⟨hk, by omega, by
              by_cases ht : v.t = []
              · exact ht
              · exact absurd ⟨by omega, ht⟩ h3⟩
          · exact .inr (.inl ⟨hk, by
              by_cases ht : v.t = []
              · exact ht
              · exact absurd ⟨by omega, ht⟩ h3⟩)
          · exact .inr (.inr ⟨hk, by omega, by omega⟩)
/-- A value's key, and what is wrong. -/
def keyN (v : Vl) : List UInt8 × Int := if rightN v ≠ 0 then ([], rightN v) else (if v.k = 1 then 1 :: keyOf v.n else if v.k = 2 then 2 :: tkey v.t else [0], 0)
theorem keyN_err (v : Vl) : (keyN v).2 = rightN v := by
  unfold keyN
  split
  · rfl
  · rename_i h; omega
theorem key_len (v : Vl) : (keyN v).1.length ≤ 90 := by
  unfold keyN
  split
  · simp
  · rename_i h
    have h0 : rightN v = 0 := by omega
    have ht := tkey_len v.t
    have hk : (keyOf v.n).length = 8 := by rw [key_be, be_length]
    rcases right0 h0 with ⟨k, _, _⟩ | ⟨k, _⟩ | ⟨k, _, hl⟩ <;> simp [k] <;> omega
theorem ok_42 (n : Int) : okOs Go.Proofs.Tryd.prog [25] [] [vI n] = true := by kernel_rfl
theorem ok2942 (l : List UInt8) (e : Int) : okOs Go.Proofs.Tryd.prog [30, 25] [.o, .v] [vO l, vI e] = true := by
  show (okO Go.Proofs.Tryd.prog 30 .o (vO l) && (okO Go.Proofs.Tryd.prog 25 .v (vI e) && true)) = true
  rw [okO22, show okO Go.Proofs.Tryd.prog 25 .v (vI e) = true by kernel_rfl]; rfl
theorem s23k (n : Nat) (v : Vl) : pcall C (n + 100) 18 [vV v.k v.n v.t] = some ([vO (keyN v).1, vI (keyN v).2], []) := by
  obtain ⟨k, m, t⟩ := v
  rw [pcall_step (by rfl) (by rfl), f18_value_Key_eq]
  unfold f18_value_Key keyN
  have h1 : pcall C (n + 99) 11 [vV k m t] = _ := X13.s11 (n + 97) k m t
  by_cases h0 : rightN ⟨k, m, t⟩ = 0
  · rw [h0] at h1
    have y0 : (((0 : Int) != (0 : Int)) : Bool) = false := rfl
    have h2 : pcall C (n + 99) 38 [vI m] = _ := s21 (n + 86) m
    have lk : (keyOf m).length = 8 := by rw [key_be, be_length]
    have l1 : ∀ x : PV, ([x] : List PV).length = 1 := fun _ => rfl
    rcases right0 h0 with ⟨e1, e2, e3⟩ | ⟨e1, e2⟩ | ⟨e1, e2, e3⟩ <;> dsimp only at e1 e2
    · subst e1
      simp only [h1, callB_some, ok_42, needB_true, List.headD_cons, fvF, pvF, toI_int, y0, ifB_eq, Bool.false_eq_true, if_false, show ((0 : Int) == 1) = false from rfl, show ((0 : Int) == 2) = false from rfl, h0, ne_eq, not_true_eq_false, show ¬ ((0 : Int) = 1) from by decide, show ¬ ((0 : Int) = 2) from by decide]
      rfl
    · subst e1
      have b1 : Nat.ble ((1 + 8) * 1) 140737488355328 = true := by decide
      have b2 : Nat.ble (1 + 8) 9223372036854775807 = true := by decide
      simp only [h1, callB_some, ok_42, ok22, needB_true, List.headD_cons, fvF, pvF, xsO, toI_int, y0, ifB_eq, Bool.false_eq_true, if_false, if_true, show ((1 : Int) == 1) = true from rfl, h0, ne_eq, not_true_eq_false, h2, bb_length, lk, l1, b1, b2]
      rfl
    · subst e1
      dsimp only at e3
      have h3 := s8' (n + 99) t (by omega) (by omega)
      have tl := tkey_len t
      have b1 : Nat.ble ((1 + (tkey t).length) * 1) 140737488355328 = true := by rw [Nat.ble_eq]; omega
      have b2 : Nat.ble (1 + (tkey t).length) 9223372036854775807 = true := by rw [Nat.ble_eq]; omega
      simp only [h1, callB_some, ok_42, ok22, needB_true, List.headD_cons, fvF, pvF, xsO, toI_int, y0, ifB_eq, Bool.false_eq_true, if_false, if_true, show ((2 : Int) == 1) = false from rfl, show ((2 : Int) == 2) = true from rfl, h0, ne_eq, not_true_eq_false, h3, bb_length, l1, b1, b2, show ¬ ((2 : Int) = 1) from by decide]
      rfl
  · have y0 : ((rightN ⟨k, m, t⟩ != (0 : Int)) : Bool) = true := by simpa using h0
    simp only [h1, callB_some, ok_42, needB_true, List.headD_cons, fvF, pvF, toI_int, y0, ifB_eq, if_true, ne_eq, h0, not_false_eq_true]
    rfl
def testS (o : Int) (v : Vl) : Sp :=
  if rightN v ≠ 0 then allS else if v.k = 0 then noneS
  else if o = 3 then ⟨(keyN v).1, (keyN v).1 ++ [0], true⟩ else if o = 5 then ⟨[], (keyN v).1, true⟩ else if o = 6 then ⟨[], (keyN v).1 ++ [0], true⟩
  else if o = 7 then ⟨(keyN v).1 ++ [0], [], false⟩ else ⟨(keyN v).1, [], false⟩
theorem test_len (o : Int) (v : Vl) : (testS o v).f.length ≤ 100 ∧ (testS o v).t.length ≤ 100 := by
  have := key_len v
  unfold testS
  repeat' split
  all_goals simp [allS, noneS] <;> omega
def mirrorN (o : Int) : Int := if o = 5 then 7 else if o = 6 then 8 else if o = 7 then 5 else if o = 8 then 6 else o
end Go.Proofs.YtgcjhapomljekaaDoor

open Go Go.Ev

set_option linter.unusedSimpArgs false

set_option linter.unusedVariables false

set_option maxHeartbeats 4000000

namespace Go.Proofs.YtgcjhapomljekaaDoor
open X13 (Vl Rs vV cmpN rightN sameV inI numV nullV knownN compareBytes_eq)

theorem less_succ : ∀ (x k : List UInt8), Op.bytesLess x (k ++ [0]) = !Op.bytesLess k x
  | [], [] => by decide
  | [], b :: k => rfl
  | a :: x, [] => by
    show (decide (a < 0) || (a == 0 && Op.bytesLess x [])) = !true
    have h : ¬ a < 0 := UInt8.not_lt_zero
    have e : Op.bytesLess x [] = false := by cases x <;> rfl
    simp [h, e]
  | a :: x, b :: k => by
    show (decide (a < b) || (a == b && Op.bytesLess x (k ++ [0]))) = !(decide (b < a) || (b == a && Op.bytesLess k x))
    rw [less_succ x k]
    by_cases h1 : a < b
    · have n1 : ¬ b < a := fun h => UInt8.lt_irrefl a (UInt8.lt_trans h1 h)
      have n2 : ¬ b = a := fun h => UInt8.lt_irrefl b (h ▸ h1)
      simp [h1, n1, n2]
    · by_cases h2 : b < a
      · have n2 : ¬ a = b := fun h => UInt8.lt_irrefl b (h ▸ h2)
        simp [h1, h2, n2]
      · have e : a = b := UInt8.le_antisymm (UInt8.not_lt.1 h2) (UInt8.not_lt.1 h1)
        subst e
        simp [h1]
theorem less_nil (x : List UInt8) : Op.bytesLess x [] = false := by cases x <;> rfl
theorem cmpB_lt (a b : List UInt8) : (Lib.compareBytes a b < 0) ↔ Op.bytesLess a b = true := by
  rw [compareBytes_eq]
  by_cases e : a = b
  · subst e; simp [less_irrefl]
  · rw [if_neg e]
    cases h : Op.bytesLess a b <;> simp
theorem cmpB_anti (a b : List UInt8) : (Lib.compareBytes a b < 0) ↔ (Lib.compareBytes b a > 0) := by
  rw [cmpB_lt, gt_iff]
theorem cmpN_anti (v w : Vl) : (cmpN v w < 0) ↔ (cmpN w v > 0) := by
  have h := cmpB_anti v.t w.t
  unfold cmpN
  by_cases a1 : v.k < w.k
  · have a2 : ¬ w.k < v.k := by omega
    simp [a1, a2]
  · by_cases a2 : w.k < v.k
    · simp [a1, a2]
    · by_cases b1 : v.n < w.n
      · have b2 : ¬ w.n < v.n := by omega
        simp [a1, a2, b1, b2]
      · by_cases b2 : w.n < v.n
        · simp [a1, a2, b1, b2]
        · simp only [a1, a2, b1, b2, if_false]
          exact h
theorem key_null : (keyN ⟨0, 0, []⟩).1 = [0] := by decide
theorem key_num (n : Int) : (keyN ⟨1, n, []⟩).1 = 1 :: keyOf n := rfl
theorem right_text {t : List UInt8} (h : t.length ≤ 40) : rightN ⟨2, 0, t⟩ = 0 := by
  unfold rightN
  rw [if_neg (by simp), if_neg (by simp), if_neg (by simp), if_neg (by simpa using h)]
theorem key_text {t : List UInt8} (h : t.length ≤ 40) : (keyN ⟨2, 0, t⟩).1 = 2 :: tkey t := by
  unfold keyN
  rw [if_neg (by rw [right_text h]; simp)]
  rfl
theorem less_cons (a b : UInt8) (x y : List UInt8) : Op.bytesLess (a :: x) (b :: y) = (decide (a < b) || (a == b && Op.bytesLess x y)) := rfl
theorem nums_less (n m : Int) (ix : inI n) (iy : inI m) : Op.bytesLess (keyOf n) (keyOf m) = decide (n < m) := by
  by_cases e : n = m
  · subst e; rw [less_irrefl]; simp
  · have h := less_keys n m ix.1 ix.2 iy.1 iy.2 e [] []
    simpa using h
theorem texts_less (s t : List UInt8) : Op.bytesLess (tkey s) (tkey t) = Op.bytesLess s t := by
  by_cases e : s = t
  · subst e; rw [less_irrefl, less_irrefl]
  · have h := less_tkeys s t [] [] e
    simpa using h
theorem key_less (x y : Vl) (hx : rightN x = 0) (hy : rightN y = 0) (ix : inI x.n) (iy : inI y.n) : Op.bytesLess (keyN x).1 (keyN y).1 = decide (cmpN x y < 0) := by
  obtain ⟨k, n, t⟩ := x
  obtain ⟨k', n', t'⟩ := y
  have hc := cmpB_lt t t'
  rcases right0 hx with ⟨e1, e2, e3⟩ | ⟨e1, e2⟩ | ⟨e1, e2, e3⟩ <;> rcases right0 hy with ⟨f1, f2, f3⟩ | ⟨f1, f2⟩ | ⟨f1, f2, f3⟩ <;> dsimp only at e1 e2 f1 f2 <;> subst e1 <;> subst e2 <;> subst f1 <;> subst f2
  · dsimp only at e3 f3; subst e3; subst f3; decide
  · dsimp only at e3; subst e3
    rw [key_null, key_num]; rfl
  · dsimp only at e3; subst e3
    rw [key_null, key_text f3]; rfl
  · dsimp only at f3; subst f3
    rw [key_null, key_num]; rfl
  · rw [key_num, key_num, less_cons, nums_less _ _ ix iy]
    unfold cmpN
    simp only [Int.lt_irrefl, if_false]
    by_cases h1 : n < n'
    · simp [h1]
    · by_cases h2 : n' < n
      · simp [h1, h2]
      · simp only [h1, h2, if_false]
        decide
  · rw [key_num, key_text f3]; rfl
  · dsimp only at f3; subst f3
    rw [key_null, key_text e3]; rfl
  · rw [key_num, key_text e3]; rfl
  · rw [key_text e3, key_text f3, less_cons, texts_less]
    unfold cmpN
    simp only [Int.lt_irrefl, if_false]
    cases hb : Op.bytesLess t t' <;> rw [hb] at hc <;> simp_all
/-- A relation between two values. -/
def relN (o : Int) (c : Int) : Bool := if o = 3 then c == 0 else if o = 4 then c != 0 else if o = 5 then decide (c < 0) else if o = 6 then decide (c ≤ 0) else if o = 7 then decide (c > 0) else decide (c ≥ 0)
theorem in_test (o : Int) (v w : Vl) (ho : o = 3 ∨ o = 5 ∨ o = 6 ∨ o = 7 ∨ o = 8) (hv : rightN v = 0) (hw : rightN w = 0) (iv : inI v.n) (iw : inI w.n) (hk : v.k ≠ 0) : inN (testS o v) (keyN w).1 = relN o (cmpN w v) := by
  have l1 := key_less w v hw hv iw iv
  have l2 := key_less v w hv hw iv iw
  have a := cmpN_anti v w
  unfold testS
  rw [if_neg (by rw [hv]; simp), if_neg hk]
  unfold inN
  rcases ho with rfl | rfl | rfl | rfl | rfl
  · simp only [if_true, less_succ, l1, l2, relN]
    by_cases h1 : cmpN w v < 0
    · have : ¬ cmpN w v = 0 := by omega
      simp [h1, this]
    · by_cases h2 : cmpN v w < 0
      · have : ¬ cmpN w v = 0 := by have := a.1 h2; omega
        simp [h1, h2, this]
      · have : cmpN w v = 0 := by
          have : ¬ cmpN w v > 0 := fun h => h2 (a.2 h)
          omega
        simp [h1, h2, this]
  · simp [less_nil, l1, relN]
  · simp only [show ¬ (6 : Int) = 3 from by decide, show ¬ (6 : Int) = 5 from by decide, show ¬ (6 : Int) = 4 from by decide, if_true, if_false, less_succ, l2, less_nil, relN]
    by_cases h2 : cmpN v w < 0
    · have := a.1 h2
      have n : ¬ cmpN w v ≤ 0 := by omega
      simp [h2, n]
    · have : ¬ cmpN w v > 0 := fun h => h2 (a.2 h)
      have n : cmpN w v ≤ 0 := by omega
      simp [h2, n]
  · simp only [show ¬ (7 : Int) = 3 from by decide, show ¬ (7 : Int) = 5 from by decide, show ¬ (7 : Int) = 4 from by decide, show ¬ (7 : Int) = 6 from by decide, if_true, if_false, less_succ, l2, less_nil, relN]
    by_cases h2 : cmpN v w < 0
    · have := a.1 h2
      simp [h2, this]
    · have : ¬ cmpN w v > 0 := fun h => h2 (a.2 h)
      simp [h2, this]
  · simp only [show ¬ (8 : Int) = 3 from by decide, show ¬ (8 : Int) = 5 from by decide, show ¬ (8 : Int) = 4 from by decide, show ¬ (8 : Int) = 6 from by decide, show ¬ (8 : Int) = 7 from by decide, if_false, l1, relN]
    by_cases h1 : cmpN w v < 0
    · have : ¬ cmpN w v ≥ 0 := by omega
      simp [h1, this]
    · have : cmpN w v ≥ 0 := by omega
      simp [h1, this]
end Go.Proofs.YtgcjhapomljekaaDoor

open Go Go.Ev

set_option linter.unusedSimpArgs false

set_option linter.unusedVariables false

set_option maxHeartbeats 4000000

namespace Go.Proofs.YtgcjhapomljekaaDoor
open X13 (Vl Rs vV cmpN rightN sameV inI numV nullV knownN compareBytes_eq)

theorem cmpB_range (a b : List UInt8) : Lib.compareBytes a b = -1 ∨ Lib.compareBytes a b = 0 ∨ Lib.compareBytes a b = 1 := by
  rw [compareBytes_eq]
  split
  · simp
  · split <;> simp
theorem cmpB_zero (a b : List UInt8) : Lib.compareBytes a b = 0 ↔ a = b := by
  rw [compareBytes_eq]
  split
  · simp [*]
  · split <;> simp [*]
theorem cmpN_range (v w : Vl) : cmpN v w = -1 ∨ cmpN v w = 0 ∨ cmpN v w = 1 := by
  have := cmpB_range v.t w.t
  unfold cmpN
  repeat' split
  all_goals first | exact this | simp
theorem cmpN_zero (v w : Vl) : cmpN v w = 0 ↔ v = w := by
  have := cmpB_zero v.t w.t
  obtain ⟨k, n, t⟩ := v
  obtain ⟨k', n', t'⟩ := w
  dsimp only at this
  unfold cmpN
  dsimp only
  rw [Vl.mk.injEq]
  by_cases a1 : k < k'
  · have : ¬ k = k' := by omega
    simp [a1, this]
  · by_cases a2 : k' < k
    · have : ¬ k = k' := by omega
      simp [a1, a2, this]
    · by_cases b1 : n < n'
      · have : ¬ n = n' := by omega
        simp [a1, a2, b1, this]
      · by_cases b2 : n' < n
        · have : ¬ n = n' := by omega
          simp [a1, a2, b1, b2, this]
        · have e1 : k = k' := by omega
          have e2 : n = n' := by omega
          rw [if_neg a1, if_neg a2, if_neg b1, if_neg b2, this]
          simp only [e1, e2, true_and]
theorem cmpN_neg (v w : Vl) : cmpN w v = - cmpN v w := by
  have h1 := cmpN_anti v w
  have h2 := cmpN_anti w v
  have r1 := cmpN_range v w
  have r2 := cmpN_range w v
  omega
theorem cmpN_lt (v w : Vl) : cmpN v w < 0 ↔ (v.k < w.k ∨ (v.k = w.k ∧ (v.n < w.n ∨ (v.n = w.n ∧ Op.bytesLess v.t w.t = true)))) := by
  have := cmpB_lt v.t w.t
  unfold cmpN
  by_cases a1 : v.k < w.k
  · simp [a1]
  · by_cases a2 : w.k < v.k
    · have : ¬ v.k = w.k := by omega
      simp [a1, a2, this]
    · have e1 : v.k = w.k := by omega
      by_cases b1 : v.n < w.n
      · simp [a1, a2, b1, e1]
      · by_cases b2 : w.n < v.n
        · have : ¬ v.n = w.n := by omega
          simp [a1, a2, b1, b2, this]
        · have e2 : v.n = w.n := by omega
          simp only [a1, a2, b1, b2, if_false, this, e1, e2, true_and, false_or, Int.lt_irrefl]
theorem cmpN_trans (a b c : Vl) (h1 : cmpN a b < 0) (h2 : cmpN b c < 0) : cmpN a c < 0 := by
  rw [cmpN_lt] at h1 h2 ⊢
  rcases h1 with h1 | ⟨e1, h1 | ⟨f1, h1⟩⟩ <;> rcases h2 with h2 | ⟨e2, h2 | ⟨f2, h2⟩⟩
  · exact .inl (by omega)
  · exact .inl (by omega)
  · exact .inl (by omega)
  · exact .inl (by omega)
  · exact .inr ⟨by omega, .inl (by omega)⟩
  · exact .inr ⟨by omega, .inl (by omega)⟩
  · exact .inl (by omega)
  · exact .inr ⟨by omega, .inl (by omega)⟩
  · exact .inr ⟨by omega, .inr ⟨by omega, less_trans _ _ _ h1 h2⟩⟩
theorem q8 (n : Nat) (a b c : Vl) : pcall C (n + 201) 8 [vV a.k a.n a.t, vV b.k b.n b.t, vV c.k c.n c.t] = some ([vB true], []) := by
  rw [pcall_step (by rfl) (by rfl), f8_vestrylaw07_ValueSorts_eq]
  unfold f8_vestrylaw07_ValueSorts
  have c1 : pcall C (n + 200) 10 [] = _ := s10 (n + 70)
  have c2 : pcall C (n + 200) 13 [vV a.k a.n a.t, vV b.k b.n b.t] = some ([vI (cmpN a b)], []) := X13.s41 (n + 193) a.k a.n a.t b.k b.n b.t
  have c3 : pcall C (n + 200) 13 [vV b.k b.n b.t, vV c.k c.n c.t] = some ([vI (cmpN b c)], []) := X13.s41 (n + 193) b.k b.n b.t c.k c.n c.t
  have c4 : pcall C (n + 200) 13 [vV a.k a.n a.t, vV c.k c.n c.t] = some ([vI (cmpN a c)], []) := X13.s41 (n + 193) a.k a.n a.t c.k c.n c.t
  have c5 : pcall C (n + 200) 13 [vV b.k b.n b.t, vV a.k a.n a.t] = some ([vI (cmpN b a)], []) := X13.s41 (n + 193) b.k b.n b.t a.k a.n a.t
  have r1 := cmpN_range a b
  have r2 := cmpN_range b c
  have r3 := cmpN_range a c
  have ng := cmpN_neg a b
  have z1 := cmpN_zero a b
  have z2 := cmpN_zero b c
  have tr := cmpN_trans a b c
  have w : IntKind.wrap .i64 ((0 : Int) - cmpN a b) = cmpN b a := by
    rw [ng, IntKind.wrap_i64]; omega
  have d1 : ¬ cmpN a b < (-1 : Int) := by omega
  have d2 : ¬ cmpN a b > (1 : Int) := by omega
  have d3 : ((cmpN b a != cmpN b a) : Bool) = false := bne_self_eq_false _
  have d4 : (((cmpN a b == (0 : Int)) : Bool) == ((a.k == b.k) && ((a.n == b.n) && ((a.t == b.t) && (true))))) = true := by
    have hs := X13.sameV_iff a b
    unfold sameV at hs
    by_cases e : a = b
    · have h0 := z1.2 e
      rw [h0, hs.2 e]; rfl
    · have h0 : ((cmpN a b == (0 : Int)) : Bool) = false := by
        have : ¬ cmpN a b = 0 := fun h => e (z1.1 h)
        simpa using this
      have h1 : ((a.k == b.k) && ((a.n == b.n) && ((a.t == b.t) && (true)))) = false := by
        cases hh : ((a.k == b.k) && ((a.n == b.n) && ((a.t == b.t) && (true))))
        · rfl
        · exact absurd (hs.1 hh) e
      rw [h0, h1]; rfl
  simp only [c1, c2, c3, c4, c5, callB_some, ok4, X13.ok3, needB_true, List.headD_cons, List.tail_cons, fvF, pvF, toB_bool, toI_int, ifB_eq, d1, d2, decide_false, Bool.false_eq_true, if_false, w, d3, d4, Bool.not_true, if_true]
  by_cases x0 : cmpN a b > 0
  · simp only [x0, decide_true, if_true]
  · by_cases y0 : cmpN b c > 0
    · simp only [x0, y0, decide_true, decide_false, if_true, if_false, Bool.false_eq_true]
    · have hz : cmpN a c ≤ 0 ∧ ((cmpN a b = 0 ∧ cmpN b c = 0) ∨ cmpN a c < 0) := by
        rcases r1 with r | r | r
        · rcases r2 with q | q | q
          · have := tr (by omega) (by omega); exact ⟨by omega, .inr this⟩
          · have := z2.1 q; subst this; exact ⟨by omega, .inr (by omega)⟩
          · omega
        · have := z1.1 r; subst this
          rcases r2 with q | q | q
          · exact ⟨by omega, .inr (by omega)⟩
          · exact ⟨by omega, .inl ⟨r, q⟩⟩
          · omega
        · omega
      obtain ⟨hz1, hz2⟩ := hz
      simp only [x0, y0, hz1, decide_true, decide_false, if_true, if_false, Bool.false_eq_true]
      by_cases e1 : cmpN a b = 0
      · by_cases e2 : cmpN b c = 0
        · simp [e1, e2]
        · have : cmpN a c < 0 := by omega
          simp [e1, e2, this]
      · have : cmpN a c < 0 := by omega
        simp [e1, this]
theorem q9 (n : Nat) (x : Int) (s : List UInt8) : pcall C (n + 201) 9 [vI x, .flat (.val (.str s))] = some ([vB true], []) := by
  rw [pcall_step (by rfl) (by rfl), f9_vestrylaw07_ValueKinds_eq]
  unfold f9_vestrylaw07_ValueKinds
  have c1 : pcall C (n + 200) 10 [] = _ := s10 (n + 70)
  have c2 : pcall C (n + 200) 11 [vV 0 0 []] = some ([vI (rightN ⟨0, 0, []⟩)], []) := X13.s11 (n + 198) 0 0 []
  have c3 : pcall C (n + 200) 11 [vV 1 x []] = some ([vI (rightN ⟨1, x, []⟩)], []) := X13.s11 (n + 198) 1 x []
  have c4 : pcall C (n + 200) 11 [vV 2 0 s] = some ([vI (rightN ⟨2, 0, s⟩)], []) := X13.s11 (n + 198) 2 0 s
  have c5 : pcall C (n + 200) 13 [vV 0 0 [], vV 1 x []] = some ([vI (-1)], []) := X13.s41 (n + 193) 0 0 [] 1 x []
  have c6 : pcall C (n + 200) 13 [vV 1 x [], vV 2 0 s] = some ([vI (-1)], []) := X13.s41 (n + 193) 1 x [] 2 0 s
  have c7 : pcall C (n + 200) 13 [vV 2 0 s, vV 0 0 []] = some ([vI 1], []) := X13.s41 (n + 193) 2 0 s 0 0 []
  have c8 : pcall C (n + 200) 15 [vV 0 0 []] = some ([.flat (.val (.str [78, 85, 76, 76]))], []) := by kernel_rfl
  have r2 : rightN ⟨0, 0, []⟩ = 0 := by decide
  have r3 : rightN ⟨1, x, []⟩ = 0 := by
    unfold rightN
    rw [if_neg (by simp), if_neg (by simp), if_neg (by simp), if_neg (by simp)]
  have r4 : (((rightN ⟨2, 0, s⟩ == (0 : Int)) : Bool) == (decide (((List.length s : Nat) : Int) ≤ (40 : Int)))) = true := by
    by_cases h : s.length ≤ 40
    · have h' : ((List.length s : Nat) : Int) ≤ 40 := by omega
      rw [right_text h, decide_eq_true h']; rfl
    · have h' : ¬ ((List.length s : Nat) : Int) ≤ 40 := by omega
      have : rightN ⟨2, 0, s⟩ = 2 := by
        unfold rightN
        rw [if_neg (by simp), if_neg (by simp), if_neg (by simp), if_pos (by simpa using h)]
      rw [this, decide_eq_false h']; rfl
  have o9 : ∀ t : List UInt8, okOs Go.Proofs.Tryd.prog [9] [] [.flat (.val (.str t))] = true := fun t => by kernel_rfl
  have ts : ∀ t : List UInt8, PV.toS (.str t) = t := fun t => rfl
  simp only [c1, c2, c3, c4, c5, c6, c7, c8, callB_some, ok4, X13.ok3, ok_42, o9, needB_true, List.headD_cons, List.tail_cons, fvF, pvF, toB_bool, toI_int, ts, ifB_eq, r2, r3, r4, beq_self_eq_true, if_true]
end Go.Proofs.YtgcjhapomljekaaDoor

open Go Go.Ev

set_option linter.unusedSimpArgs false

set_option linter.unusedVariables false

set_option maxHeartbeats 4000000

namespace Go.Proofs.YtgcjhapomljekaaDoor
open X13 (Vl Rs vV cmpN rightN sameV inI numV nullV knownN compareBytes_eq)

theorem s12r (n : Nat) (k m : Int) (t : List UInt8) : pcall C (n + 1) 12 [vV k m t] = some ([vI (rightN ⟨k, m, t⟩)], []) := X13.s27 n k m t
theorem s20k (n : Nat) (v : Vl) : pcall C (n + 100) 20 [vV v.k v.n v.t] = some ([vO (keyN v).1, vI (keyN v).2], []) := by
  obtain ⟨k, m, t⟩ := v
  rw [pcall_step (by rfl) (by rfl), f20_vestryref07_Key_eq]
  unfold f20_vestryref07_Key keyN
  have h1 : pcall C (n + 99) 12 [vV k m t] = _ := s12r (n + 98) k m t
  by_cases h0 : rightN ⟨k, m, t⟩ = 0
  · rw [h0] at h1
    have y0 : (((0 : Int) != (0 : Int)) : Bool) = false := rfl
    have h2 : pcall C (n + 99) 42 [vI m] = _ := s28 (n + 86) m
    have lk : (keyOf m).length = 8 := by rw [key_be, be_length]
    have l1 : ∀ x : PV, ([x] : List PV).length = 1 := fun _ => rfl
    rcases right0 h0 with ⟨e1, e2, e3⟩ | ⟨e1, e2⟩ | ⟨e1, e2, e3⟩ <;> dsimp only at e1 e2
    · subst e1
      simp only [h1, callB_some, ok_42, needB_true, List.headD_cons, fvF, pvF, toI_int, y0, ifB_eq, Bool.false_eq_true, if_false, show ((0 : Int) == 1) = false from rfl, show ((0 : Int) == 2) = false from rfl, h0, ne_eq, not_true_eq_false, show ¬ ((0 : Int) = 1) from by decide, show ¬ ((0 : Int) = 2) from by decide]
      rfl
    · subst e1
      have b1 : Nat.ble ((1 + 8) * 1) 140737488355328 = true := by decide
      have b2 : Nat.ble (1 + 8) 9223372036854775807 = true := by decide
      simp only [h1, callB_some, ok_42, ok22, needB_true, List.headD_cons, fvF, pvF, xsO, toI_int, y0, ifB_eq, Bool.false_eq_true, if_false, if_true, show ((1 : Int) == 1) = true from rfl, show ((1 : Int) == 2) = false from rfl, h0, ne_eq, not_true_eq_false, h2, bb_length, lk, l1, b1, b2]
      rfl
    · subst e1
      dsimp only at e3
      have h3 := s13' (n + 99) t (by omega) (by omega)
      have tl := tkey_len t
      have b1 : Nat.ble ((1 + (tkey t).length) * 1) 140737488355328 = true := by rw [Nat.ble_eq]; omega
      have b2 : Nat.ble (1 + (tkey t).length) 9223372036854775807 = true := by rw [Nat.ble_eq]; omega
      simp only [h1, callB_some, ok_42, ok22, needB_true, List.headD_cons, fvF, pvF, xsO, toI_int, y0, ifB_eq, Bool.false_eq_true, if_false, if_true, show ((2 : Int) == 1) = false from rfl, show ((2 : Int) == 2) = true from rfl, h0, ne_eq, not_true_eq_false, h3, bb_length, l1, b1, b2, show ¬ ((2 : Int) = 1) from by decide]
      rfl
  · have y0 : ((rightN ⟨k, m, t⟩ != (0 : Int)) : Bool) = true := by simpa using h0
    simp only [h1, callB_some, ok_42, needB_true, List.headD_cons, fvF, pvF, toI_int, y0, ifB_eq, if_true, ne_eq, h0, not_false_eq_true]
    rfl
theorem takeT_err : ∀ (l : List UInt8) (p : Nat) (out : List UInt8), (takeT l p out).2.2 ≠ 0 → (takeT l p out).1 = []
  | [], _, _, _ => rfl
  | [_], _, _, _ => rfl
  | b :: c :: r, p, out, h => by
    unfold takeT at h ⊢
    split
    · split
      · rename_i h1 h2
        rw [if_pos h1, if_pos h2] at h
        exact absurd rfl h
      · split
        · rename_i h1 h2 h3
          rw [if_pos h1, if_neg h2, if_pos h3] at h
          exact takeT_err r _ _ h
        · rfl
    · rename_i h1
      rw [if_neg h1] at h
      exact takeT_err (c :: r) _ _ h
theorem takeT_used : ∀ (l : List UInt8) (p : Nat) (out : List UInt8), (takeT l p out).2.1 ≤ p + l.length
  | [], _, _ => by simp [takeT]
  | [_], _, _ => by simp [takeT]
  | b :: c :: r, p, out => by
    unfold takeT
    split
    · split
      · simp
      · split
        · have := takeT_used r (p + 2) (out ++ [0])
          simp only [List.length_cons]
          omega
        · simp
    · have := takeT_used (c :: r) (p + 1) (out ++ [b])
      simp only [List.length_cons] at this ⊢
      omega
/-- A value out of bytes: the value, how many bytes, what is wrong. -/
def takeV : List UInt8 → Vl × Nat × Int
  | [] => (nullV, 0, 3)
  | x :: r =>
    if x = 0 then (nullV, 1, 0)
    else if x = 1 then (if (takeKeyN r).2.2 ≠ 0 then (nullV, 0, (takeKeyN r).2.2) else (numV (takeKeyN r).1, 9, 0))
    else if x = 2 then (if (takeT r 0 []).2.2 ≠ 0 then (nullV, 0, (takeT r 0 []).2.2) else if (takeT r 0 []).1.length > 40 then (nullV, 0, 2) else (⟨2, 0, (takeT r 0 []).1⟩, 1 + (takeT r 0 []).2.1, 0))
    else (nullV, 0, 4)
theorem takeKey_used (l : List UInt8) (h : (takeKeyN l).2.2 = 0) : (takeKeyN l).2.1 = 8 ∧ 8 ≤ l.length := by
  unfold takeKeyN at h ⊢
  by_cases c : l.length < 8
  · rw [if_pos c] at h; exact absurd h (by decide)
  · rw [if_neg c]; exact ⟨rfl, by omega⟩
theorem takeV_cons (x : UInt8) (r : List UInt8) : takeV (x :: r) = if x = 0 then (nullV, 1, 0)
    else if x = 1 then (if (takeKeyN r).2.2 ≠ 0 then (nullV, 0, (takeKeyN r).2.2) else (numV (takeKeyN r).1, 9, 0))
    else if x = 2 then (if (takeT r 0 []).2.2 ≠ 0 then (nullV, 0, (takeT r 0 []).2.2) else if (takeT r 0 []).1.length > 40 then (nullV, 0, 2) else (⟨2, 0, (takeT r 0 []).1⟩, 1 + (takeT r 0 []).2.1, 0))
    else (nullV, 0, 4) := rfl
theorem takeV_used (l : List UInt8) : (takeV l).2.1 ≤ l.length := by
  cases l with
  | nil => simp [takeV]
  | cons x r =>
    rw [takeV_cons]
    split
    · simp
    · split
      · split
        · simp
        · rename_i h
          have := takeKey_used r (by omega)
          simp only [List.length_cons]
          omega
      · split
        · split
          · simp
          · split
            · simp
            · have := takeT_used r 0 []
              simp only [List.length_cons]
              omega
        · simp
theorem vNull : vV nullV.k nullV.n nullV.t = vV 0 0 [] := rfl
theorem b5 (x : UInt8) : hasT Go.Proofs.Tryd.prog 5 (pvByte x) = true := by kernel_rfl
theorem ok2335 (k m : Int) (t : List UInt8) (a e : Int) : okOs Go.Proofs.Tryd.prog [23, 3, 25] [] [vV k m t, vI a, vI e] = true := by kernel_rfl
theorem ok935 (t : List UInt8) (a e : Int) : okOs Go.Proofs.Tryd.prog [9, 3, 25] [] [vS t, vI a, vI e] = true := by kernel_rfl
theorem toS_s (s : List UInt8) : PV.toS (.str s) = s := rfl
theorem byte_int (x : UInt8) : PV.toI (pvByte x) = (x.toNat : Int) := rfl
theorem byte_wrap (x : UInt8) : IntKind.wrap .i64 (x.toNat : Int) = (x.toNat : Int) := by
  have := x.toNat_lt
  rw [IntKind.wrap_i64]; omega
theorem byte_is (x : UInt8) (k : Nat) (hk : k < 256) : ((((x.toNat : Nat) : Int) == (k : Int)) : Bool) = decide (x = UInt8.ofNat k) := by
  have e : (x = UInt8.ofNat k) ↔ x.toNat = k := by
    constructor
    · intro h; rw [h]; simp [UInt8.toNat_ofNat', Nat.mod_eq_of_lt hk]
    · intro h; rw [← h]; simp
  by_cases h : x.toNat = k
  · rw [decide_eq_true (e.2 h), h]; simp
  · rw [decide_eq_false (fun q => h (e.1 q))]
    have : ¬ ((x.toNat : Nat) : Int) = (k : Int) := by omega
    simpa using this
theorem take_wrap (x : Nat) (h : x ≤ 1000000000) : IntKind.wrap .i64 ((1 : Int) + (x : Int)) = ((1 + x : Nat) : Int) := by
  rw [IntKind.wrap_i64]; omega
theorem s19t (N : Nat) (l : List UInt8) (hN : l.length + 30 ≤ N) (hl : l.length ≤ 1000000000) : pcall C N 19 [vR l] = some ([vV (takeV l).1.k (takeV l).1.n (takeV l).1.t, vI ((takeV l).2.1 : Int), vI (takeV l).2.2], []) := by
  obtain ⟨n, rfl⟩ : ∃ n, N = n + 1 := ⟨N - 1, by omega⟩
  rw [pcall_step (by rfl) (by rfl), f19_value_TakeKey_eq]
  unfold f19_value_TakeKey
  cases l with
  | nil => rfl
  | cons x r =>
    have hl' : r.length + 1 ≤ 1000000000 := by simpa using hl
    have hN' : r.length + 31 ≤ n + 1 := by simp only [List.length_cons] at hN; omega
    obtain ⟨m, rfl⟩ : ∃ m, n = m + 13 := ⟨n - 13, by omega⟩
    have h1 : pcall C (m + 13) 40 [vR r] = _ := s24 m r
    have h2 := s10' (m + 13) r (by omega) (by omega)
    have z0 : ((((bb (x :: r)).length : Nat) : Int) == (0 : Int)) = false := by
      have : ¬ (((bb (x :: r)).length : Nat) : Int) = 0 := by rw [bb_length, List.length_cons]; omega
      simpa using this
    have z1 : decide ((0 : Int) < (((bb (x :: r)).length : Nat) : Int)) = true := decide_eq_true (by rw [bb_length, List.length_cons]; omega)
    have z2 : decide ((1 : Int) ≤ (((bb (x :: r)).length : Nat) : Int)) = true := decide_eq_true (by rw [bb_length, List.length_cons]; omega)
    have n0 : nthP (bb (x :: r)) 0 = pvByte x := rfl
    have dr : List.drop 1 (bb (x :: r)) = bb r := rfl
    have k0 := byte_is x 0 (by decide)
    have k1 := byte_is x 1 (by decide)
    have k2 := byte_is x 2 (by decide)
    simp only [z0, z1, z2, n0, dr, b5, byte_int, byte_wrap, ifB_eq, needB_true, Bool.false_eq_true, if_false]
    rw [takeV_cons]
    by_cases x0 : x = 0
    · subst x0; rfl
    · by_cases x1 : x = 1
      · subst x1
        have e0 : ((((1 : UInt8).toNat : Nat) : Int) == (0 : Int)) = false := rfl
        have e1 : ((((1 : UInt8).toNat : Nat) : Int) == (1 : Int)) = true := rfl
        simp only [e0, e1, Bool.false_eq_true, if_false, if_true, h1, callB_some, ok3325, needB_true, List.headD_cons, List.tail_cons, fvF, pvF, toI_int]
        by_cases e : (takeKeyN r).2.2 = 0
        · have := takeKey_used r e
          rw [this.1]
          have w : IntKind.wrap .i64 ((1 : Int) + 8) = 9 := by decide
          simp only [e, bne_self_eq_false, Bool.false_eq_true, if_false, w, ne_eq, not_true_eq_false, show ¬ ((1 : UInt8) = 0) from by decide]
          rfl
        · have e' : (((takeKeyN r).2.2 != (0 : Int)) : Bool) = true := by simpa using e
          simp only [e', if_true, ne_eq, e, not_false_eq_true, show ¬ ((1 : UInt8) = 0) from by decide, if_false]
          rfl
      · by_cases x2 : x = 2
        · subst x2
          have e0 : ((((2 : UInt8).toNat : Nat) : Int) == (0 : Int)) = false := rfl
          have e1 : ((((2 : UInt8).toNat : Nat) : Int) == (1 : Int)) = false := rfl
          have e2 : ((((2 : UInt8).toNat : Nat) : Int) == (2 : Int)) = true := rfl
          have er := takeT_err r 0 []
          have us := takeT_used r 0 []
          generalize takeT r 0 [] = q at h2 er us ⊢
          obtain ⟨s, u, e⟩ := q
          dsimp only at h2 er us ⊢
          simp only [e0, e1, e2, Bool.false_eq_true, if_false, if_true, h2, callB_some, ok935, needB_true, List.headD_cons, List.tail_cons, fvF, pvF, toI_int, toS_s, show ¬ ((2 : UInt8) = 0) from by decide, show ¬ ((2 : UInt8) = 1) from by decide]
          by_cases he : e = 0
          · subst he
            by_cases hs : s.length > 40
            · have hs' : ((s.length : Nat) : Int) > 40 := by omega
              simp only [hs', hs, decide_true, if_true, ne_eq, not_true_eq_false, if_false]
              rfl
            · have hs' : ¬ ((s.length : Nat) : Int) > 40 := by omega
              simp only [hs', hs, decide_false, bne_self_eq_false, Bool.false_eq_true, if_false, ne_eq, not_true_eq_false]
              rw [take_wrap u (by omega)]
              rfl
          · have h0 := er he
            subst h0
            have e' : ((e != (0 : Int)) : Bool) = true := by simpa using he
            have hs' : ¬ ((([] : List UInt8).length : Nat) : Int) > 40 := by simp
            simp only [hs', decide_false, Bool.false_eq_true, if_false, e', if_true, ne_eq, he, not_false_eq_true]
            rfl
        · have e0 : ((((x).toNat : Nat) : Int) == (0 : Int)) = false := by rw [show (0 : Int) = ((0 : Nat) : Int) from rfl, k0]; exact decide_eq_false x0
          have e1 : ((((x).toNat : Nat) : Int) == (1 : Int)) = false := by rw [show (1 : Int) = ((1 : Nat) : Int) from rfl, k1]; exact decide_eq_false x1
          have e2 : ((((x).toNat : Nat) : Int) == (2 : Int)) = false := by rw [show (2 : Int) = ((2 : Nat) : Int) from rfl, k2]; exact decide_eq_false x2
          simp only [e0, e1, e2, Bool.false_eq_true, if_false, x0, x1, x2]
          rfl
theorem s21t (N : Nat) (l : List UInt8) (hN : l.length + 30 ≤ N) (hl : l.length ≤ 1000000000) : pcall C N 21 [vR l] = some ([vV (takeV l).1.k (takeV l).1.n (takeV l).1.t, vI ((takeV l).2.1 : Int), vI (takeV l).2.2], []) := by
  obtain ⟨n, rfl⟩ : ∃ n, N = n + 1 := ⟨N - 1, by omega⟩
  rw [pcall_step (by rfl) (by rfl), f21_vestryref07_TakeKey_eq]
  unfold f21_vestryref07_TakeKey
  cases l with
  | nil => rfl
  | cons x r =>
    have hl' : r.length + 1 ≤ 1000000000 := by simpa using hl
    have hN' : r.length + 31 ≤ n + 1 := by simp only [List.length_cons] at hN; omega
    obtain ⟨m, rfl⟩ : ∃ m, n = m + 13 := ⟨n - 13, by omega⟩
    have h1 : pcall C (m + 13) 44 [vR r] = _ := s26 (m + 1) r
    have h2 := s11' (m + 13) r (by omega) (by omega)
    have z0 : ((((bb (x :: r)).length : Nat) : Int) == (0 : Int)) = false := by
      have : ¬ (((bb (x :: r)).length : Nat) : Int) = 0 := by rw [bb_length, List.length_cons]; omega
      simpa using this
    have z1 : decide ((0 : Int) < (((bb (x :: r)).length : Nat) : Int)) = true := decide_eq_true (by rw [bb_length, List.length_cons]; omega)
    have z2 : decide ((1 : Int) ≤ (((bb (x :: r)).length : Nat) : Int)) = true := decide_eq_true (by rw [bb_length, List.length_cons]; omega)
    have n0 : nthP (bb (x :: r)) 0 = pvByte x := rfl
    have dr : List.drop 1 (bb (x :: r)) = bb r := rfl
    have k0 := byte_is x 0 (by decide)
    have k1 := byte_is x 1 (by decide)
    have k2 := byte_is x 2 (by decide)
    simp only [z0, z1, z2, n0, dr, b5, byte_int, ifB_eq, needB_true, Bool.false_eq_true, if_false]
    rw [takeV_cons]
    by_cases x0 : x = 0
    · subst x0; rfl
    · by_cases x1 : x = 1
      · subst x1
        have e0 : ((((1 : UInt8).toNat : Nat) : Int) == (0 : Int)) = false := rfl
        have e1 : ((((1 : UInt8).toNat : Nat) : Int) == (1 : Int)) = true := rfl
        simp only [e0, e1, Bool.false_eq_true, if_false, if_true, h1, callB_some, ok3325, needB_true, List.headD_cons, List.tail_cons, fvF, pvF, toI_int]
        by_cases e : (takeKeyN r).2.2 = 0
        · have := takeKey_used r e
          rw [this.1]
          have w : IntKind.wrap .i64 ((1 : Int) + 8) = 9 := by decide
          simp only [e, bne_self_eq_false, Bool.false_eq_true, if_false, w, ne_eq, not_true_eq_false, show ¬ ((1 : UInt8) = 0) from by decide]
          rfl
        · have e' : (((takeKeyN r).2.2 != (0 : Int)) : Bool) = true := by simpa using e
          simp only [e', if_true, ne_eq, e, not_false_eq_true, show ¬ ((1 : UInt8) = 0) from by decide, if_false]
          rfl
      · by_cases x2 : x = 2
        · subst x2
          have e0 : ((((2 : UInt8).toNat : Nat) : Int) == (0 : Int)) = false := rfl
          have e1 : ((((2 : UInt8).toNat : Nat) : Int) == (1 : Int)) = false := rfl
          have e2 : ((((2 : UInt8).toNat : Nat) : Int) != (2 : Int)) = false := rfl
          have us := takeT_used r 0 []
          generalize takeT r 0 [] = q at h2 us ⊢
          obtain ⟨s, u, e⟩ := q
          dsimp only at h2 us ⊢
          simp only [e0, e1, e2, Bool.false_eq_true, if_false, if_true, h2, callB_some, ok935, needB_true, List.headD_cons, List.tail_cons, fvF, pvF, toI_int, toS_s, show ¬ ((2 : UInt8) = 0) from by decide, show ¬ ((2 : UInt8) = 1) from by decide]
          by_cases he : e = 0
          · subst he
            by_cases hs : s.length > 40
            · have hs' : ((s.length : Nat) : Int) > 40 := by omega
              simp only [hs', hs, decide_true, bne_self_eq_false, Bool.false_eq_true, if_true, ne_eq, not_true_eq_false, if_false]
              rfl
            · have hs' : ¬ ((s.length : Nat) : Int) > 40 := by omega
              simp only [hs', hs, decide_false, bne_self_eq_false, Bool.false_eq_true, if_false, ne_eq, not_true_eq_false]
              rw [take_wrap u (by omega)]
            try rfl
          · have e' : ((e != (0 : Int)) : Bool) = true := by simpa using he
            simp only [Bool.false_eq_true, if_false, e', if_true, ne_eq, he, not_false_eq_true]
            rfl
        · have e0 : ((((x).toNat : Nat) : Int) == (0 : Int)) = false := by rw [show (0 : Int) = ((0 : Nat) : Int) from rfl, k0]; exact decide_eq_false x0
          have e1 : ((((x).toNat : Nat) : Int) == (1 : Int)) = false := by rw [show (1 : Int) = ((1 : Nat) : Int) from rfl, k1]; exact decide_eq_false x1
          have e2 : ((((x).toNat : Nat) : Int) != (2 : Int)) = true := by
            have : ((((x).toNat : Nat) : Int) == (2 : Int)) = false := by rw [show (2 : Int) = ((2 : Nat) : Int) from rfl, k2]; exact decide_eq_false x2
            simpa using this
          simp only [e0, e1, e2, Bool.false_eq_true, if_false, if_true, x0, x1, x2]
          rfl
end Go.Proofs.YtgcjhapomljekaaDoor

open Go Go.Ev

set_option linter.unusedSimpArgs false

set_option linter.unusedVariables false

set_option maxHeartbeats 4000000

namespace Go.Proofs.YtgcjhapomljekaaDoor
open X13 (Vl Rs vV cmpN rightN sameV inI numV nullV knownN compareBytes_eq)

theorem key_empty (v : Vl) : ((((keyN v).1.length : Nat) : Int) == (0 : Int)) = ((rightN v != (0 : Int)) : Bool) := by
  by_cases h : rightN v = 0
  · have : (((keyN v).1.length : Nat) : Int) ≠ 0 := by
      unfold keyN
      rw [if_neg (by rw [h]; simp)]
      rcases right0 h with ⟨k, _, _⟩ | ⟨k, _⟩ | ⟨k, _, hl⟩ <;> simp [k] <;> omega
    have : ((((keyN v).1.length : Nat) : Int) == (0 : Int)) = false := by simpa using this
    rw [this, h]; rfl
  · have : (keyN v).1 = [] := by
      unfold keyN
      rw [if_pos h]
    rw [this]
    have : ((rightN v != (0 : Int)) : Bool) = true := by simpa using h
    rw [this]; rfl
theorem takeV_key (v : Vl) (rest : List UInt8) (h : rightN v = 0) (hi : inI v.n) : takeV ((keyN v).1 ++ rest) = (v, (keyN v).1.length, 0) := by
  obtain ⟨k, n, t⟩ := v
  have lk : (keyOf n).length = 8 := by rw [key_be, be_length]
  rcases right0 h with ⟨e1, e2, e3⟩ | ⟨e1, e2⟩ | ⟨e1, e2, e3⟩ <;> dsimp only at e1 e2 <;> subst e1 <;> subst e2
  · dsimp only at e3; subst e3
    rw [key_null]; rfl
  · rw [key_num]
    show takeV (1 :: (keyOf n ++ rest)) = _
    rw [takeV_cons, takeKey_be n hi.1 hi.2 rest]
    rw [List.length_cons, lk]; rfl
  · dsimp only at e3
    rw [key_text e3]
    show takeV (2 :: (tkey t ++ rest)) = _
    rw [takeV_cons, takeT_tkey t rest]
    rw [if_neg (by decide), if_neg (by decide), if_pos rfl, if_neg (by simp), if_neg (by simpa using e3), List.length_cons, Nat.add_comm]
theorem key_less_more (x y : Vl) (hx : rightN x = 0) (hy : rightN y = 0) (ix : inI x.n) (iy : inI y.n) (ne : x ≠ y) (p q : List UInt8) : Op.bytesLess ((keyN x).1 ++ p) ((keyN y).1 ++ q) = decide (cmpN x y < 0) := by
  obtain ⟨k, n, t⟩ := x
  obtain ⟨k', n', t'⟩ := y
  have hc := cmpB_lt t t'
  rcases right0 hx with ⟨e1, e2, e3⟩ | ⟨e1, e2⟩ | ⟨e1, e2, e3⟩ <;> rcases right0 hy with ⟨f1, f2, f3⟩ | ⟨f1, f2⟩ | ⟨f1, f2, f3⟩ <;> dsimp only at e1 e2 f1 f2 <;> subst e1 <;> subst e2 <;> subst f1 <;> subst f2
  · dsimp only at e3 f3; subst e3; subst f3; exact absurd rfl ne
  · dsimp only at e3; subst e3
    rw [key_null, key_num]; rfl
  · dsimp only at e3; subst e3
    rw [key_null, key_text f3]; rfl
  · dsimp only at f3; subst f3
    rw [key_null, key_num]; rfl
  · have hne : n ≠ n' := fun e => ne (by rw [e])
    rw [key_num, key_num, List.cons_append, List.cons_append, less_cons, less_keys n n' ix.1 ix.2 iy.1 iy.2 hne]
    unfold cmpN
    simp only [Int.lt_irrefl, if_false]
    by_cases h1 : n < n'
    · simp [h1]
    · have h2 : n' < n := by omega
      simp [h1, h2]
  · rw [key_num, key_text f3]; rfl
  · dsimp only at f3; subst f3
    rw [key_null, key_text e3]; rfl
  · rw [key_num, key_text e3]; rfl
  · have hne : t ≠ t' := fun e => ne (by rw [e])
    rw [key_text e3, key_text f3, List.cons_append, List.cons_append, less_cons, less_tkeys t t' p q hne]
    unfold cmpN
    simp only [Int.lt_irrefl, if_false]
    cases hb : Op.bytesLess t t' <;> rw [hb] at hc <;> simp_all
theorem rowB2 (a b : List UInt8) (s : List PV) (h : isRowB (FV.own none (bb a) []) = true) : isRowB (FV.own none (bb a) []) = true := h
theorem q4 (N : Nat) (v : Vl) (b : List UInt8) (hN : b.length + 300 ≤ N) (hb : b.length ≤ 1000000000) : pcall C N 4 [vV v.k v.n v.t, vR b] = some ([vB true], []) := by
  obtain ⟨n, rfl⟩ : ∃ n, N = n + 201 := ⟨N - 201, by omega⟩
  rw [pcall_step (by rfl) (by rfl), f4_vestrylaw07_ValueKeys_eq]
  unfold f4_vestrylaw07_ValueKeys
  have c1 : pcall C (n + 200) 10 [] = _ := s10 (n + 70)
  have c2 : pcall C (n + 200) 17 [vR b] = _ := s9 (n + 199) b (by omega)
  have c3 : pcall C (n + 200) 18 [vV v.k v.n v.t] = _ := s23k (n + 100) v
  have c4 := s19t (n + 200) b (by omega) hb
  have c5 : pcall C (n + 200) 20 [vV v.k v.n v.t] = _ := s20k (n + 100) v
  have c6 := s21t (n + 200) b (by omega) hb
  have c7 : pcall C (n + 200) 22 [vLent b, vR b] = _ := s14 (n + 199) b (by omega)
  have c8 : pcall C (n + 200) 23 [.cont .nest [.own none (bb (keyN v).1) [], .own none (bb b) [.int .u8 77]]] = _ := s15 (n + 199) [.own none (bb (keyN v).1) [], .own none (bb b) [.int .u8 77]] (by
    have h1 : isRowB (.own none (bb (keyN v).1) []) = true := by
      simp [isRowB, isByte_bb]
    have h2 : isRowB (.own none (bb b) [.int .u8 77]) = true := by
      simp [isRowB, isByte_bb]
    simp only [List.all_cons, h1, h2, List.all_nil]; rfl) (by simp)
  simp only [c1, c2, c3, c4, c5, c6, c7, c8, callB_some, ok4, ok22s, ok2942, ok2335, out22s, isByte_bb, u8_bb, needB_true, List.headD_cons, List.tail_cons, fvF, pvF, xsO, spO, cellsA, toB_bool, toI_int, toS_s, ifB_eq, beq_self_eq_true, Bool.true_and, if_true]
theorem lt_dec (x y : Int) : (if x < y then true else false) = decide (x < y) := by split <;> simp_all
theorem q6 (n : Nat) (a b : Vl) (p q : List UInt8) (ia : inI a.n) (ib : inI b.n) : pcall C (n + 70000) 6 [vV a.k a.n a.t, vV b.k b.n b.t, vR p, vR q] = some ([vB true], []) := by
  rw [pcall_step (by rfl) (by rfl), f6_vestrylaw07_ValueOrders_eq]
  unfold f6_vestrylaw07_ValueOrders
  have c1 : pcall C (n + 69999) 10 [] = _ := s10 (n + 69869)
  have c2 : pcall C (n + 69999) 18 [vV a.k a.n a.t] = _ := s23k (n + 69899) a
  have c3 : pcall C (n + 69999) 18 [vV b.k b.n b.t] = _ := s23k (n + 69899) b
  have c4 : pcall C (n + 69999) 13 [vV a.k a.n a.t, vV b.k b.n b.t] = some ([vI (cmpN a b)], []) := X13.s41 (n + 69992) a.k a.n a.t b.k b.n b.t
  have ka := key_empty a
  have kb := key_empty b
  have la := key_len a
  have lb := key_len b
  rw [keyN_err] at c2 c3
  simp only [c1, c2, c3, callB_some, ok4, ok2942, needB_true, List.headD_cons, List.tail_cons, fvF, pvF, xsO, toB_bool, toI_int, ifB_eq, bb_length, ka, kb, beq_self_eq_true, if_true]
  by_cases h1 : rightN a = 0
  · by_cases h2 : rightN b = 0
    · by_cases h3 : ((p.length : Nat) : Int) > 65536
      · simp only [h1, h2, h3, bne_self_eq_false, Bool.false_eq_true, if_false, decide_true, if_true]
      · by_cases h4 : ((q.length : Nat) : Int) > 65536
        · simp only [h1, h2, h3, h4, bne_self_eq_false, Bool.false_eq_true, if_false, decide_true, decide_false, if_true]
        · have tk := takeV_key a p h1 ia
          have c5 := s19t (n + 69999) ((keyN a).1 ++ p) (by rw [List.length_append]; omega) (by rw [List.length_append]; omega)
          rw [tk] at c5
          have hb1 : Nat.ble ((keyN a).1.length + p.length) 9223372036854775807 = true := by rw [Nat.ble_eq]; omega
          have hb2 : Nat.ble ((keyN b).1.length + q.length) 9223372036854775807 = true := by rw [Nat.ble_eq]; omega
          have hb3 : Nat.ble ((keyN a).1 ++ p).length 9223372036854775807 = true := by rw [Nat.ble_eq, List.length_append]; omega
          have mp : ∀ l : List UInt8, List.map pvByte l = bb l := fun _ => rfl
          have d4 : (((cmpN a b == (0 : Int)) : Bool) == ((a.k == b.k) && ((a.n == b.n) && ((a.t == b.t) && (true))))) = true := by
            have hs := X13.sameV_iff a b
            have z1 := cmpN_zero a b
            unfold sameV at hs
            by_cases e : a = b
            · have h0 := z1.2 e
              rw [h0, hs.2 e]; rfl
            · have h0 : ((cmpN a b == (0 : Int)) : Bool) = false := by
                have : ¬ cmpN a b = 0 := fun h => e (z1.1 h)
                simpa using this
              have h1 : ((a.k == b.k) && ((a.n == b.n) && ((a.t == b.t) && (true)))) = false := by
                cases hh : ((a.k == b.k) && ((a.n == b.n) && ((a.t == b.t) && (true))))
                · rfl
                · exact absurd (hs.1 hh) e
              rw [h0, h1]; rfl
          simp only [h1, h2, h3, h4, bne_self_eq_false, Bool.false_eq_true, if_false, decide_false, isByte_bb, u8_bb, hb1, hb2, hb3, mp, needB_true, c4, c5, callB_some, X13.ok3, ok2335, List.headD_cons, List.tail_cons, fvF, pvF, cellsA, toI_int, toS_s, beq_self_eq_true, Bool.true_and, Bool.not_true, d4, if_true]
          by_cases e : cmpN a b = 0
          · simp only [e, beq_self_eq_true, if_true]
          · have e' : ((cmpN a b == (0 : Int)) : Bool) = false := by simpa using e
            have hk := key_less_more a b h1 h2 ia ib (fun x => e ((cmpN_zero a b).2 x)) p q
            rw [hk]
            simp only [e', Bool.false_eq_true, if_false]
            by_cases l : cmpN a b < 0 <;> simp [l]
    · have e2 : ((rightN b != (0 : Int)) : Bool) = true := by simpa using h2
      simp only [h1, e2, bne_self_eq_false, Bool.false_eq_true, if_false, if_true]
  · have e1 : ((rightN a != (0 : Int)) : Bool) = true := by simpa using h1
    simp only [e1, if_true]
end Go.Proofs.YtgcjhapomljekaaDoor

open Go Go.Ev

set_option linter.unusedSimpArgs false

set_option linter.unusedVariables false

set_option maxHeartbeats 4000000

namespace Go.Proofs.YtgcjhapomljekaaDoor
open X13 (Vl Rs vV cmpN rightN sameV inI numV nullV knownN compareBytes_eq)

/-- A value, and a row of some. -/
def pVl (v : Vl) : PV := .agg [.int .i64 v.k, .int .i64 v.n, .str v.t]
def rowV (vs : List Vl) : List PV := vs.map pVl
abbrev vRow (vs : List Vl) : OV := .flat (.val (.sl (some 3) (rowV vs)))
abbrev vRowO (vs : List Vl) : OV := .flat (.own (some 3) (rowV vs) [])
theorem rowV_len (vs : List Vl) : (rowV vs).length = vs.length := by simp [rowV]
theorem nthP_row {vs : List Vl} {i : Nat} (h : i < vs.length) : nthP (rowV vs) i = pVl vs[i] := by
  simp [nthP, rowV, List.getD, h]
theorem hasT23' (v : Vl) : hasT Go.Proofs.Tryd.prog 23 (pVl v) = true := by
  obtain ⟨k, n, t⟩ := v
  exact X13.hasT23 k n t
theorem all23 (vs : List Vl) : (rowV vs).all (hasT Go.Proofs.Tryd.prog 23) = true := by
  simp [rowV, List.all_eq_true, hasT23']
theorem row40 (vs : List Vl) : okRow Go.Proofs.Tryd.prog 40 (rowV vs) [] = true := by
  have h1 : tElem Go.Proofs.Tryd.prog 40 = some 23 := by kernel_rfl
  unfold okRow
  rw [h1]
  dsimp only
  split
  · rw [all23]; rfl
  · rfl
theorem ok4025 (vs : List Vl) (e : Int) : okOs Go.Proofs.Tryd.prog [40, 25] [.o, .v] [vRowO vs, vI e] = true := by
  have h1 : elemShape Go.Proofs.Tryd.prog 40 = some 3 := by kernel_rfl
  show ((shEq (elemShape Go.Proofs.Tryd.prog 40) (some 3) && okRow Go.Proofs.Tryd.prog 40 (rowV vs) []) && (okO Go.Proofs.Tryd.prog 25 .v (vI e) && true)) = true
  rw [h1, row40, okI25]; rfl
/-- A row in bytes. -/
def rgo : List UInt8 → List Vl → List UInt8 × Int
  | out, [] => (out, 0)
  | out, v :: r => if rightN v ≠ 0 then ([], rightN v) else rgo (out ++ (keyN v).1) r
def rowVN (vs : List Vl) : List UInt8 × Int := if vs.length > 8 then ([], 2) else rgo [] vs
theorem row_loop24 (rec : Rec) (n : Nat) (vs : List Vl) (hl : vs.length ≤ 8) (hrec : ∀ v : Vl, rec 18 [vV v.k v.n v.t] = some ([vO (keyN v).1, vI (keyN v).2], [])) : ∀ (m i : Nat) (out : List UInt8), vs.length < m + i → i ≤ vs.length → out.length ≤ 90 * i →
    f24_value_Row.l0 rec n m (bb out) (rowV vs) ((vs.length : Nat) : Int) (i : Int) = some ([vO (rgo out (vs.drop i)).1, vI (rgo out (vs.drop i)).2], [])
  | 0, i, out, h1, h2, h3 => by omega
  | m + 1, i, out, h1, h2, h3 => by
    show f24_value_Row.l0.step rec n (f24_value_Row.l0 rec n m) _ _ _ _ = _
    unfold f24_value_Row.l0.step
    by_cases hi : i < vs.length
    · have c0 : ((i : Int) < ((vs.length : Nat) : Int)) := by omega
      have c1 : (0 : Int) ≤ (i : Int) := by omega
      have ht : Int.toNat (i : Int) = i := rfl
      have hr := hrec vs[i]
      have hd : vs.drop i = vs[i] :: vs.drop (i + 1) := List.drop_eq_getElem_cons hi
      rw [hd]
      generalize vs[i] = v at hr hd ⊢
      have hn : nthP (rowV vs) i = pVl v := by
        rw [nthP_row hi]
        congr 1
        have := hd
        rw [List.drop_eq_getElem_cons hi] at this
        injection this
      rw [keyN_err] at hr
      have kl := key_len v
      have cv : PV.cells (pVl v) = [.int .i64 v.k, .int .i64 v.n, .str v.t] := rfl
      simp only [c0, c1, ht, rowV_len, hn, hasT23', decide_true, ifB_eq, needB_true, if_true, cv, List.headD_cons, List.tail_cons, toI_int, toS_s, hr, callB_some, ok2942, fvF, pvF, xsO]
      by_cases he : rightN v = 0
      · have b1 : Nat.ble ((out.length + (keyN v).1.length) * 1) 140737488355328 = true := by rw [Nat.ble_eq]; omega
        have b2 : Nat.ble (out.length + (keyN v).1.length) 9223372036854775807 = true := by rw [Nat.ble_eq]; omega
        have ih := row_loop24 rec n vs hl hrec m (i + 1) (out ++ (keyN v).1) (by omega) (by omega) (by rw [List.length_append]; omega)
        simp only [he, bne_self_eq_false, Bool.false_eq_true, if_false, bb_length, b1, b2, needB_true, bb_append, wrap_nat' i (by omega), ih]
        unfold rgo
        rw [if_neg (by rw [he]; simp)]
        cases vs.drop (i + 1) <;> rfl
      · have e1 : ((rightN v != (0 : Int)) : Bool) = true := by simpa using he
        simp only [e1, if_true]
        unfold rgo
        rw [if_pos he]
        rfl
    · have hi' : i = vs.length := by omega
      have c0 : ¬ ((i : Int) < ((vs.length : Nat) : Int)) := by omega
      have hd : vs.drop i = [] := by rw [hi']; simp
      simp only [c0, decide_false, Bool.false_eq_true, ifB_eq, if_false, hd]
      rfl
theorem s24r (n : Nat) (vs : List Vl) : pcall C (n + 200) 24 [vRow vs] = some ([vO (rowVN vs).1, vI (rowVN vs).2], []) := by
  rw [pcall_step (by rfl) (by rfl), f24_value_Row_eq]
  unfold f24_value_Row f24_value_Row.pre rowVN
  by_cases h : vs.length > 8
  · have c : ((vs.length : Nat) : Int) > 8 := by omega
    simp only [rowV_len, c, h, decide_true, ifB_eq, if_true]
    rfl
  · have c : ¬ ((vs.length : Nat) : Int) > 8 := by omega
    have := row_loop24 (pcall C (n + 199)) (n + 199) vs (by omega) (fun v => s23k (n + 99) v) (n + 199) 0 [] (by omega) (by omega) (by simp)
    rw [List.drop_zero] at this
    simp only [rowV_len, c, h, decide_false, Bool.false_eq_true, ifB_eq, if_false]
    exact this
theorem row_loop26 (rec : Rec) (n : Nat) (vs : List Vl) (hl : vs.length ≤ 8) (hrec : ∀ v : Vl, rec 20 [vV v.k v.n v.t] = some ([vO (keyN v).1, vI (keyN v).2], [])) : ∀ (m i : Nat) (out : List UInt8), vs.length < m + i → i ≤ vs.length → out.length ≤ 90 * i →
    f26_vestryref07_Row.l0 rec n m (rowV vs) (bb out) (i : Int) = some ([vO (rgo out (vs.drop i)).1, vI (rgo out (vs.drop i)).2], [])
  | 0, i, out, h1, h2, h3 => by omega
  | m + 1, i, out, h1, h2, h3 => by
    show f26_vestryref07_Row.l0.step rec n (f26_vestryref07_Row.l0 rec n m) _ _ _ = _
    unfold f26_vestryref07_Row.l0.step
    by_cases hi : i < vs.length
    · have c0 : ((i : Int) < ((vs.length : Nat) : Int)) := by omega
      have c1 : (0 : Int) ≤ (i : Int) := by omega
      have ht : Int.toNat (i : Int) = i := rfl
      have hr := hrec vs[i]
      have hd : vs.drop i = vs[i] :: vs.drop (i + 1) := List.drop_eq_getElem_cons hi
      rw [hd]
      generalize vs[i] = v at hr hd ⊢
      have hn : nthP (rowV vs) i = pVl v := by
        rw [nthP_row hi]
        congr 1
        have := hd
        rw [List.drop_eq_getElem_cons hi] at this
        injection this
      rw [keyN_err] at hr
      have kl := key_len v
      have cv : PV.cells (pVl v) = [.int .i64 v.k, .int .i64 v.n, .str v.t] := rfl
      simp only [c0, c1, ht, rowV_len, hn, hasT23', decide_true, ifB_eq, needB_true, if_true, cv, List.headD_cons, List.tail_cons, toI_int, toS_s, hr, callB_some, ok2942, fvF, pvF, xsO]
      by_cases he : rightN v = 0
      · have b1 : Nat.ble ((out.length + (keyN v).1.length) * 1) 140737488355328 = true := by rw [Nat.ble_eq]; omega
        have b2 : Nat.ble (out.length + (keyN v).1.length) 9223372036854775807 = true := by rw [Nat.ble_eq]; omega
        have ih := row_loop26 rec n vs hl hrec m (i + 1) (out ++ (keyN v).1) (by omega) (by omega) (by rw [List.length_append]; omega)
        simp only [he, bne_self_eq_false, Bool.false_eq_true, if_false, bb_length, b1, b2, needB_true, bb_append, wrap_nat' i (by omega), ih]
        unfold rgo
        rw [if_neg (by rw [he]; simp)]
        cases vs.drop (i + 1) <;> rfl
      · have e1 : ((rightN v != (0 : Int)) : Bool) = true := by simpa using he
        simp only [e1, if_true]
        unfold rgo
        rw [if_pos he]
        rfl
    · have hi' : i = vs.length := by omega
      have c0 : ¬ ((i : Int) < ((vs.length : Nat) : Int)) := by omega
      have hd : vs.drop i = [] := by rw [hi']; simp
      simp only [rowV_len, c0, decide_false, Bool.false_eq_true, ifB_eq, if_false, hd]
      rfl
theorem s26r (n : Nat) (vs : List Vl) : pcall C (n + 200) 26 [vRow vs] = some ([vO (rowVN vs).1, vI (rowVN vs).2], []) := by
  rw [pcall_step (by rfl) (by rfl), f26_vestryref07_Row_eq]
  unfold f26_vestryref07_Row f26_vestryref07_Row.pre rowVN
  by_cases h : vs.length > 8
  · have c : ((vs.length : Nat) : Int) > 8 := by omega
    simp only [rowV_len, c, h, decide_true, ifB_eq, if_true]
    rfl
  · have c : ¬ ((vs.length : Nat) : Int) > 8 := by omega
    have := row_loop26 (pcall C (n + 199)) (n + 199) vs (by omega) (fun v => s20k (n + 99) v) (n + 199) 0 [] (by omega) (by omega) (by simp)
    rw [List.drop_zero] at this
    simp only [rowV_len, c, h, decide_false, Bool.false_eq_true, ifB_eq, if_false]
    exact this
theorem same_loop28 (rec : Rec) (n : Nat) (xs ys : List Vl) (hl : xs.length = ys.length) (hb : xs.length ≤ 1000000000) : ∀ (m i : Nat), xs.length < m + i → i ≤ xs.length →
    f28_vestryref07_Same.l0 rec n m (rowV xs) (rowV ys) (i : Int) = some ([vB (decide (xs.drop i = ys.drop i))], [])
  | 0, i, h1, h2 => by omega
  | m + 1, i, h1, h2 => by
    show f28_vestryref07_Same.l0.step rec n (f28_vestryref07_Same.l0 rec n m) _ _ _ = _
    unfold f28_vestryref07_Same.l0.step
    by_cases hi : i < xs.length
    · have hj : i < ys.length := by omega
      have c0 : ((i : Int) < ((xs.length : Nat) : Int)) := by omega
      have c0' : ((i : Int) < ((ys.length : Nat) : Int)) := by omega
      have c1 : (0 : Int) ≤ (i : Int) := by omega
      have ht : Int.toNat (i : Int) = i := rfl
      have n1 := nthP_row hi
      have n2 := nthP_row hj
      have d1 : xs.drop i = xs[i] :: xs.drop (i + 1) := List.drop_eq_getElem_cons hi
      have d2 : ys.drop i = ys[i] :: ys.drop (i + 1) := List.drop_eq_getElem_cons hj
      rw [d1, d2]
      generalize xs[i] = v at n1 ⊢
      generalize ys[i] = u at n2 ⊢
      have cv : ∀ v : Vl, PV.cells (pVl v) = [.int .i64 v.k, .int .i64 v.n, .str v.t] := fun _ => rfl
      have ih := same_loop28 rec n xs ys hl hb m (i + 1) (by omega) (by omega)
      have hs : ((v.k == u.k) && ((v.n == u.n) && ((v.t == u.t) && true))) = sameV v u := rfl
      simp only [c0, c0', c1, ht, rowV_len, n1, n2, hasT23', decide_true, ifB_eq, needB_true, if_true, cv, List.headD_cons, List.tail_cons, toI_int, toS_s, hs, wrap_nat' i (by omega), ih]
      by_cases e : v = u
      · rw [(X13.sameV_iff v u).2 e]
        subst e
        simp
      · have : sameV v u = false := by
          cases h : sameV v u
          · rfl
          · exact absurd ((X13.sameV_iff v u).1 h) e
        rw [this]
        simp [e]
    · have c0 : ¬ ((i : Int) < ((xs.length : Nat) : Int)) := by omega
      have hd : xs.drop i = [] := by rw [List.drop_eq_nil_iff]; omega
      have hd' : ys.drop i = [] := by rw [List.drop_eq_nil_iff]; omega
      simp only [rowV_len, c0, decide_false, Bool.false_eq_true, ifB_eq, if_false, hd, hd']
      rfl
theorem s28s (N : Nat) (xs ys : List Vl) (hN : xs.length + 3 ≤ N) (hb : xs.length ≤ 1000000000) : pcall C N 28 [vRow xs, vRow ys] = some ([vB (decide (xs = ys))], []) := by
  obtain ⟨n, rfl⟩ : ∃ n, N = n + 1 := ⟨N - 1, by omega⟩
  rw [pcall_step (by rfl) (by rfl), f28_vestryref07_Same_eq]
  unfold f28_vestryref07_Same f28_vestryref07_Same.pre
  by_cases h : xs.length = ys.length
  · have e : ((((xs.length : Nat) : Int) != ((ys.length : Nat) : Int)) : Bool) = false := by rw [h]; simp
    have := same_loop28 (pcall C n) n xs ys h hb n 0 (by omega) (by omega)
    rw [List.drop_zero, List.drop_zero] at this
    simp only [rowV_len, e, ifB_eq, Bool.false_eq_true, if_false]
    exact this
  · have e : ((((xs.length : Nat) : Int) != ((ys.length : Nat) : Int)) : Bool) = true := by
      have : ¬ ((xs.length : Nat) : Int) = ((ys.length : Nat) : Int) := by omega
      simpa using this
    have ne : ¬ xs = ys := fun q => h (by rw [q])
    simp only [rowV_len, e, ifB_eq, if_true, decide_eq_false ne]
end Go.Proofs.YtgcjhapomljekaaDoor

open Go Go.Ev

set_option linter.unusedSimpArgs false

set_option linter.unusedVariables false

set_option maxHeartbeats 4000000

namespace Go.Proofs.YtgcjhapomljekaaDoor
open X13 (Vl Rs vV cmpN rightN sameV inI numV nullV knownN compareBytes_eq)

/-- A row out of bytes. -/
def tgo : Nat → List UInt8 → List Vl → List Vl × Int
  | 0, b, out => if b = [] then (out, 0) else ([], 2)
  | m + 1, b, out => if b = [] then (out, 0) else if (takeV b).2.2 ≠ 0 then ([], (takeV b).2.2) else tgo m (b.drop (takeV b).2.1) (out ++ [(takeV b).1])
def takeRowV (b : List UInt8) : List Vl × Int := tgo 8 b []
theorem rowV_snoc (out : List Vl) (v : Vl) : rowV out ++ [PV.agg [.int .i64 v.k, .int .i64 v.n, .str v.t]] = rowV (out ++ [v]) := by simp [rowV, pVl]
theorem bb_drop' (l : List UInt8) (k : Nat) : List.drop k (bb l) = bb (l.drop k) := by simp [bb, List.map_drop]
theorem take_loop25 (rec : Rec) (n L : Nat) (hL : L ≤ 1000000000) (hrec : ∀ l : List UInt8, l.length ≤ L → rec 19 [vR l] = some ([vV (takeV l).1.k (takeV l).1.n (takeV l).1.t, vI ((takeV l).2.1 : Int), vI (takeV l).2.2], [])) : ∀ (m M : Nat) (b : List UInt8) (out : List Vl), out.length + m = 8 → m < M → b.length ≤ L →
    f25_value_TakeRow.l0 rec n M (bb b) (rowV out) = some ([vRowO (tgo m b out).1, vI (tgo m b out).2], [])
  | m, 0, b, out, h1, h2, h3 => by omega
  | m, M + 1, b, out, h1, h2, h3 => by
    show f25_value_TakeRow.l0.step rec n (f25_value_TakeRow.l0 rec n M) _ _ = _
    unfold f25_value_TakeRow.l0.step
    by_cases hb : b = []
    · subst hb
      have c : ¬ ((([] : List UInt8).length : Nat) : Int) > 0 := by simp
      simp only [bb_length, c, decide_false, ifB_eq, Bool.false_eq_true, if_false]
      cases m <;> rfl
    · have hp : 0 < b.length := List.length_pos_iff.2 hb
      have c : ((b.length : Nat) : Int) > 0 := by omega
      cases m with
      | zero =>
        have e : ((((out.length : Nat) : Int) == (8 : Int)) : Bool) = true := by
          have : ((out.length : Nat) : Int) = 8 := by omega
          simpa using this
        simp only [bb_length, rowV_len, c, e, decide_true, ifB_eq, if_true]
        unfold tgo
        rw [if_neg hb]
        rfl
      | succ m =>
        have e : ((((out.length : Nat) : Int) == (8 : Int)) : Bool) = false := by
          have : ¬ ((out.length : Nat) : Int) = 8 := by omega
          simpa using this
        have hr := hrec b h3
        have us := takeV_used b
        have ht : Int.toNat (((takeV b).2.1 : Nat) : Int) = (takeV b).2.1 := rfl
        have l1 : ∀ x : PV, ([x] : List PV).length = 1 := fun _ => rfl
        unfold tgo
        rw [if_neg hb]
        simp only [bb_length, rowV_len, c, e, decide_true, ifB_eq, if_true, Bool.false_eq_true, if_false, hr, callB_some, ok2335, needB_true, List.headD_cons, List.tail_cons, fvF, pvF, toI_int, toS_s, cellsA, l1]
        by_cases he : (takeV b).2.2 = 0
        · have b1 : Nat.ble ((out.length + 1) * 32) 140737488355328 = true := by rw [Nat.ble_eq]; omega
          have b2 : Nat.ble (out.length + 1) 9223372036854775807 = true := by rw [Nat.ble_eq]; omega
          have b3 : (0 : Int) ≤ ((takeV b).2.1 : Int) := by omega
          have b4 : ((takeV b).2.1 : Int) ≤ ((b.length : Nat) : Int) := by omega
          have ih := take_loop25 rec n L hL hrec m M (b.drop (takeV b).2.1) (out ++ [(takeV b).1]) (by rw [List.length_append, List.length_singleton]; omega) (by omega) (by rw [List.length_drop]; omega)
          simp only [he, bne_self_eq_false, Bool.false_eq_true, if_false, b1, b2, b3, b4, decide_true, needB_true, ht, bb_drop', rowV_snoc, ih, ne_eq, not_true_eq_false]
        · have e1 : (((takeV b).2.2 != (0 : Int)) : Bool) = true := by simpa using he
          simp only [e1, if_true, ne_eq, he, not_false_eq_true]
          rfl
theorem s25t (N : Nat) (b : List UInt8) (hN : b.length + 50 ≤ N) (hb : b.length ≤ 1000000000) : pcall C N 25 [vR b] = some ([vRowO (takeRowV b).1, vI (takeRowV b).2], []) := by
  obtain ⟨n, rfl⟩ : ∃ n, N = n + 1 := ⟨N - 1, by omega⟩
  rw [pcall_step (by rfl) (by rfl), f25_value_TakeRow_eq]
  unfold f25_value_TakeRow f25_value_TakeRow.pre takeRowV
  exact take_loop25 (pcall C n) n b.length hb (fun l hl => s19t n l (by omega) (by omega)) 8 n b [] rfl (by omega) (Nat.le_refl _)
theorem take_loop27 (rec : Rec) (n : Nat) (L : List UInt8) (hL : L.length ≤ 1000000000) (hrec : ∀ l : List UInt8, l.length ≤ L.length → rec 21 [vR l] = some ([vV (takeV l).1.k (takeV l).1.n (takeV l).1.t, vI ((takeV l).2.1 : Int), vI (takeV l).2.2], [])) : ∀ (m M p : Nat) (out : List Vl), out.length + m = 8 → m < M → p ≤ L.length →
    f27_vestryref07_TakeRow.l0 rec n M (bb L) (rowV out) (p : Int) = some ([vRowO (tgo m (L.drop p) out).1, vI (tgo m (L.drop p) out).2], [])
  | m, 0, p, out, h1, h2, h3 => by omega
  | m, M + 1, p, out, h1, h2, h3 => by
    show f27_vestryref07_TakeRow.l0.step rec n (f27_vestryref07_TakeRow.l0 rec n M) _ _ _ = _
    unfold f27_vestryref07_TakeRow.l0.step
    by_cases hp : p = L.length
    · have c : ¬ ((p : Int) < ((L.length : Nat) : Int)) := by omega
      have hd : L.drop p = [] := by rw [hp]; simp
      rw [hd]
      simp only [bb_length, c, decide_false, ifB_eq, Bool.false_eq_true, if_false]
      cases m <;> rfl
    · have c : ((p : Int) < ((L.length : Nat) : Int)) := by omega
      have hb : L.drop p ≠ [] := by
        intro h
        rw [List.drop_eq_nil_iff] at h
        omega
      cases m with
      | zero =>
        have e : ((((out.length : Nat) : Int) == (8 : Int)) : Bool) = true := by
          have : ((out.length : Nat) : Int) = 8 := by omega
          simpa using this
        simp only [bb_length, rowV_len, c, e, decide_true, ifB_eq, if_true]
        unfold tgo
        rw [if_neg hb]
        rfl
      | succ m =>
        have e : ((((out.length : Nat) : Int) == (8 : Int)) : Bool) = false := by
          have : ¬ ((out.length : Nat) : Int) = 8 := by omega
          simpa using this
        have hr := hrec (L.drop p) (by rw [List.length_drop]; omega)
        have us := takeV_used (L.drop p)
        rw [List.length_drop] at us
        have ht : Int.toNat (p : Int) = p := rfl
        have l1 : ∀ x : PV, ([x] : List PV).length = 1 := fun _ => rfl
        have q1 : decide ((0 : Int) ≤ (p : Int)) = true := decide_eq_true (by omega)
        have q2 : decide ((p : Int) ≤ ((L.length : Nat) : Int)) = true := decide_eq_true (by omega)
        unfold tgo
        rw [if_neg hb]
        simp only [bb_length, rowV_len, c, e, q1, q2, ht, bb_drop', decide_true, ifB_eq, if_true, Bool.false_eq_true, if_false, hr, callB_some, ok2335, needB_true, List.headD_cons, List.tail_cons, fvF, pvF, toI_int, toS_s, cellsA, l1]
        by_cases he : (takeV (L.drop p)).2.2 = 0
        · have b1 : Nat.ble ((out.length + 1) * 32) 140737488355328 = true := by rw [Nat.ble_eq]; omega
          have b2 : Nat.ble (out.length + 1) 9223372036854775807 = true := by rw [Nat.ble_eq]; omega
          have ih := take_loop27 rec n L hL hrec m M (p + (takeV (L.drop p)).2.1) (out ++ [(takeV (L.drop p)).1]) (by rw [List.length_append, List.length_singleton]; omega) (by omega) (by omega)
          rw [← List.drop_drop] at ih
          have w : IntKind.wrap .i64 ((p : Int) + ((takeV (L.drop p)).2.1 : Int)) = ((p + (takeV (L.drop p)).2.1 : Nat) : Int) := by
            rw [IntKind.wrap_i64]; omega
          simp only [he, bne_self_eq_false, Bool.false_eq_true, if_false, b1, b2, needB_true, w, rowV_snoc, ih, ne_eq, not_true_eq_false]
        · have e1 : (((takeV (L.drop p)).2.2 != (0 : Int)) : Bool) = true := by simpa using he
          simp only [e1, if_true, ne_eq, he, not_false_eq_true]
          rfl
theorem s27t (N : Nat) (b : List UInt8) (hN : b.length + 50 ≤ N) (hb : b.length ≤ 1000000000) : pcall C N 27 [vR b] = some ([vRowO (takeRowV b).1, vI (takeRowV b).2], []) := by
  obtain ⟨n, rfl⟩ : ∃ n, N = n + 1 := ⟨N - 1, by omega⟩
  rw [pcall_step (by rfl) (by rfl), f27_vestryref07_TakeRow_eq]
  unfold f27_vestryref07_TakeRow f27_vestryref07_TakeRow.pre takeRowV
  have := take_loop27 (pcall C n) n b hb (fun l hl => s21t n l (by omega) (by omega)) 8 n 0 [] rfl (by omega) (by omega)
  rw [List.drop_zero] at this
  exact this
theorem tgo_len : ∀ (m : Nat) (b : List UInt8) (out : List Vl), out.length + m = 8 → (tgo m b out).1.length ≤ 8
  | 0, b, out, h => by
    unfold tgo
    split
    · dsimp only; omega
    · simp
  | m + 1, b, out, h => by
    unfold tgo
    split
    · dsimp only; omega
    · split
      · simp
      · exact tgo_len m _ _ (by rw [List.length_append, List.length_singleton]; omega)
theorem tgo_err : ∀ (m : Nat) (b : List UInt8) (out : List Vl), (tgo m b out).2 ≠ 0 → (tgo m b out).1 = []
  | 0, b, out, h => by
    unfold tgo at h ⊢
    split
    · rename_i e
      rw [if_pos e] at h
      exact absurd rfl h
    · rfl
  | m + 1, b, out, h => by
    unfold tgo at h ⊢
    split
    · rename_i e
      rw [if_pos e] at h
      exact absurd rfl h
    · rename_i e
      rw [if_neg e] at h
      split
      · rfl
      · rename_i e2
        rw [if_neg e2] at h
        exact tgo_err m _ _ h
end Go.Proofs.YtgcjhapomljekaaDoor

open Go Go.Ev

set_option linter.unusedSimpArgs false

set_option linter.unusedVariables false

set_option maxHeartbeats 4000000

namespace Go.Proofs.YtgcjhapomljekaaDoor
open X13 (Vl Rs vV cmpN rightN sameV inI numV nullV knownN compareBytes_eq)

/-- The keys of some values, one behind the other. -/
def keysV : List Vl → List UInt8
  | [] => []
  | v :: r => (keyN v).1 ++ keysV r
theorem rgo_ok : ∀ (vs : List Vl) (out : List UInt8), (∀ v ∈ vs, rightN v = 0) → rgo out vs = (out ++ keysV vs, 0)
  | [], out, h => by simp [rgo, keysV]
  | v :: r, out, h => by
    unfold rgo keysV
    rw [if_neg (by rw [h v (by simp)]; simp), rgo_ok r _ (fun x hx => h x (by simp [hx])), List.append_assoc]
theorem rgo_back : ∀ (vs : List Vl) (out : List UInt8), (rgo out vs).2 = 0 → ∀ v ∈ vs, rightN v = 0
  | [], out, h => by simp
  | v :: r, out, h => by
    unfold rgo at h
    by_cases e : rightN v = 0
    · rw [if_neg (by rw [e]; simp)] at h
      intro x hx
      rcases List.mem_cons.1 hx with rfl | hx
      · exact e
      · exact rgo_back r _ h x hx
    · rw [if_pos e] at h
      exact absurd h e
theorem rgo_err : ∀ (vs : List Vl) (out : List UInt8), (rgo out vs).2 ≠ 0 → (rgo out vs).1 = []
  | [], out, h => by simp [rgo] at h
  | v :: r, out, h => by
    unfold rgo at h ⊢
    split
    · rfl
    · rename_i e
      rw [if_neg e] at h
      exact rgo_err r _ h
theorem key_ne (v : Vl) (h : rightN v = 0) : 0 < (keyN v).1.length := by
  unfold keyN
  rw [if_neg (by rw [h]; simp)]
  rcases right0 h with ⟨k, _, _⟩ | ⟨k, _⟩ | ⟨k, _, hl⟩ <;> simp [k]
theorem tgo_keys : ∀ (vs : List Vl) (m : Nat) (out : List Vl), vs.length ≤ m → (∀ v ∈ vs, rightN v = 0 ∧ inI v.n) → tgo m (keysV vs) out = (out ++ vs, 0)
  | [], m, out, h, hr => by
    cases m <;> simp [tgo, keysV]
  | v :: r, 0, out, h, hr => by simp at h
  | v :: r, m + 1, out, h, hr => by
    obtain ⟨h1, h2⟩ := hr v (by simp)
    have hk := takeV_key v (keysV r) h1 h2
    have hn := key_ne v h1
    unfold tgo keysV
    have ne : ¬ ((keyN v).1 ++ keysV r = []) := by
      intro e
      have := congrArg List.length e
      rw [List.length_append, List.length_nil] at this
      omega
    rw [if_neg ne, hk]
    dsimp only
    rw [if_neg (by simp)]
    have hd : List.drop (keyN v).1.length ((keyN v).1 ++ keysV r) = keysV r := by simp
    rw [hd, tgo_keys r m _ (by simpa using h) (fun x hx => hr x (by simp [hx])), List.append_assoc]
    rfl
theorem takeKey_back (l : List UInt8) (h : 8 ≤ l.length) : keyOf (takeKeyN l).1 = l.take 8 ∧ inI (takeKeyN l).1 := by
  have hl8 : (l.take 8).length = 8 := by rw [List.length_take]; omega
  have hv := valN_lt (l.take 8) 0
  rw [hl8] at hv
  have p8 : (0 + 1) * (256 : Nat) ^ 8 = 18446744073709551616 := by decide
  rw [p8] at hv
  have hb := be_val 8 (l.take 8) hl8
  unfold takeKeyN
  rw [if_neg (by omega)]
  dsimp only
  generalize valN 0 (l.take 8) = V at hv hb ⊢
  have hw : inI (w64 ((V : Int) + 9223372036854775808)) := by
    unfold inI w64
    rw [IntKind.wrap_i64]
    omega
  refine ⟨?_, hw⟩
  rw [key_be, be8_nat]
  have : ((w64 ((V : Int) + 9223372036854775808) + 9223372036854775808) % 18446744073709551616).toNat = V := by
    unfold w64
    rw [IntKind.wrap_i64]
    omega
  rw [this]
  exact hb
theorem takeV_back (b : List UInt8) (hb : b ≠ []) (h : (takeV b).2.2 = 0) : rightN (takeV b).1 = 0 ∧ inI (takeV b).1.n ∧ (keyN (takeV b).1).1 = b.take (takeV b).2.1 := by
  cases b with
  | nil => exact absurd rfl hb
  | cons x r =>
    rw [takeV_cons] at h ⊢
    by_cases x0 : x = 0
    · subst x0
      rw [if_pos rfl]
      exact ⟨by decide, by decide, rfl⟩
    · rw [if_neg x0] at h ⊢
      by_cases x1 : x = 1
      · subst x1
        rw [if_pos rfl] at h ⊢
        by_cases e : (takeKeyN r).2.2 = 0
        · rw [if_neg (by rw [e]; simp)]
          obtain ⟨_, h8⟩ := takeKey_used r e
          obtain ⟨k1, k2⟩ := takeKey_back r h8
          refine ⟨?_, k2, ?_⟩
          · unfold rightN numV
            rw [if_neg (by simp), if_neg (by simp), if_neg (by simp), if_neg (by simp)]
          · show (keyN ⟨1, (takeKeyN r).1, []⟩).1 = _
            rw [key_num, k1]
            rfl
        · rw [if_pos e] at h
          exact absurd h e
      · rw [if_neg x1] at h ⊢
        by_cases x2 : x = 2
        · subst x2
          rw [if_pos rfl] at h ⊢
          by_cases e : (takeT r 0 []).2.2 = 0
          · rw [if_neg (by rw [e]; simp)] at h ⊢
            by_cases hl : (takeT r 0 []).1.length > 40
            · rw [if_pos hl] at h
              exact absurd h (by decide)
            · rw [if_neg hl]
              obtain ⟨u, o, q⟩ : ∃ u o, takeT r 0 [] = (u, o, 0) := ⟨(takeT r 0 []).1, (takeT r 0 []).2.1, by rw [← e]⟩
              rw [q] at hl ⊢
              dsimp only at hl ⊢
              obtain ⟨mid, m1, m2, m3, m4⟩ := takeT_back r 0 [] u o q
              rw [List.nil_append] at m1
              subst m1
              rw [Nat.zero_add] at m2
              subst m2
              refine ⟨right_text (by omega), by decide, ?_⟩
              rw [key_text (by omega), Nat.add_comm, List.take_succ_cons, m4]
          · rw [if_pos e] at h
            exact absurd h e
        · rw [if_neg x2] at h
          exact absurd h (by decide)
theorem tgo_back : ∀ (m : Nat) (b : List UInt8) (out ys : List Vl), tgo m b out = (ys, 0) → ∃ mid, ys = out ++ mid ∧ mid.length ≤ m ∧ (∀ v ∈ mid, rightN v = 0) ∧ keysV mid = b
  | 0, b, out, ys, h => by
    unfold tgo at h
    by_cases e : b = []
    · rw [if_pos e] at h
      injection h with h1 _
      exact ⟨[], by rw [← h1]; simp, by simp, by simp, e.symm⟩
    · rw [if_neg e] at h
      injection h with _ h2
      exact absurd h2 (by decide)
  | m + 1, b, out, ys, h => by
    unfold tgo at h
    by_cases e : b = []
    · rw [if_pos e] at h
      injection h with h1 _
      exact ⟨[], by rw [← h1]; simp, by simp, by simp, e.symm⟩
    · rw [if_neg e] at h
      by_cases he : (takeV b).2.2 = 0
      · rw [if_neg (by rw [he]; simp)] at h
        obtain ⟨mid, m1, m2, m3, m4⟩ := tgo_back m _ _ _ h
        obtain ⟨b1, b2, b3⟩ := takeV_back b e he
        refine ⟨(takeV b).1 :: mid, by rw [m1, List.append_assoc]; rfl, by rw [List.length_cons]; omega, fun v hv => ?_, ?_⟩
        · rcases List.mem_cons.1 hv with rfl | hv
          · exact b1
          · exact m3 v hv
        · unfold keysV
          rw [m4, b3]
          exact List.take_append_drop _ _
      · rw [if_pos he] at h
        injection h with _ h2
        exact absurd h2 he
theorem row_taken (vs : List Vl) (hi : ∀ v ∈ vs, inI v.n) (h : (rowVN vs).2 = 0) : takeRowV (rowVN vs).1 = (vs, 0) ∧ (rowVN vs).1.length ≤ 1000 := by
  unfold rowVN at h ⊢
  by_cases c : vs.length > 8
  · rw [if_pos c] at h; exact absurd h (by decide)
  · rw [if_neg c] at h ⊢
    have hr := rgo_back vs [] h
    rw [rgo_ok vs [] hr]
    dsimp only
    rw [List.nil_append]
    constructor
    · unfold takeRowV
      rw [tgo_keys vs 8 [] (by omega) (fun v hv => ⟨hr v hv, hi v hv⟩)]
      rfl
    · have hk : ∀ l : List Vl, (keysV l).length ≤ 90 * l.length := by
        intro l
        induction l with
        | nil => simp [keysV]
        | cons v r ih =>
          unfold keysV
          rw [List.length_append, List.length_cons]
          have := key_len v
          omega
      have := hk vs
      omega
theorem row_written (b : List UInt8) (h : (takeRowV b).2 = 0) : rowVN (takeRowV b).1 = (b, 0) := by
  obtain ⟨ys, hy⟩ : ∃ ys, takeRowV b = (ys, 0) := ⟨(takeRowV b).1, by rw [← h]⟩
  rw [hy]
  unfold takeRowV at hy
  obtain ⟨mid, m1, m2, m3, m4⟩ := tgo_back 8 b [] ys hy
  rw [List.nil_append] at m1
  subst m1
  unfold rowVN
  rw [if_neg (by dsimp only; omega)]
  dsimp only
  rw [rgo_ok ys [] m3, m4, List.nil_append]
theorem takeRow_len (b : List UInt8) : (takeRowV b).1.length ≤ 8 := tgo_len 8 b [] rfl
theorem q5 (N : Nat) (vs : List Vl) (b : List UInt8) (hN : vs.length + b.length + 500 ≤ N) (hv : vs.length ≤ 1000000000) (hb : b.length ≤ 1000000000) : pcall C N 5 [vRow vs, vR b] = some ([vB true], []) := by
  obtain ⟨n, rfl⟩ : ∃ n, N = n + 301 := ⟨N - 301, by omega⟩
  rw [pcall_step (by rfl) (by rfl), f5_vestrylaw07_ValueRows_eq]
  unfold f5_vestrylaw07_ValueRows
  have c1 : pcall C (n + 300) 10 [] = _ := s10 (n + 170)
  have c2 : pcall C (n + 300) 17 [vR b] = _ := s9 (n + 299) b (by omega)
  have c3 : pcall C (n + 300) 24 [vRow vs] = _ := s24r (n + 100) vs
  have c4 := s25t (n + 300) b (by omega) hb
  have c5 : pcall C (n + 300) 26 [vRow vs] = _ := s26r (n + 100) vs
  have c6 := s27t (n + 300) b (by omega) hb
  have c7 := s28s (n + 300) vs vs (by omega) hv
  have tl := takeRow_len b
  have c8 := s28s (n + 300) (takeRowV b).1 (takeRowV b).1 (by omega) (by omega)
  have c9 : pcall C (n + 300) 22 [vLent b, vR b] = _ := s14 (n + 299) b (by omega)
  have b1 : Nat.ble ((0 + vs.length) * 32) 140737488355328 = true := by rw [Nat.ble_eq]; omega
  have b2 : Nat.ble (0 + vs.length) 9223372036854775807 = true := by rw [Nat.ble_eq]; omega
  have n0 : ([] : List PV).length = 0 := rfl
  have dd : ∀ l : List Vl, decide (l = l) = true := fun l => decide_eq_true rfl
  rw [dd] at c7 c8
  simp only [c1, c2, c3, c4, c5, c6, c7, c8, c9, n0, rowV_len, b1, b2, List.nil_append, callB_some, ok4, ok22s, ok2942, ok4025, out22s, isByte_bb, u8_bb, needB_true, List.headD_cons, List.tail_cons, fvF, pvF, xsO, spO, toB_bool, toI_int, ifB_eq, beq_self_eq_true, if_true]
theorem q7 (N : Nat) (vs : List Vl) (b : List UInt8) (hN : vs.length + b.length + 3000 ≤ N) (hv : vs.length ≤ 1000000000) (hb : b.length ≤ 1000000000) (hi : ∀ v ∈ vs, inI v.n) : pcall C N 7 [vRow vs, vR b] = some ([vB true], []) := by
  obtain ⟨n, rfl⟩ : ∃ n, N = n + 301 := ⟨N - 301, by omega⟩
  rw [pcall_step (by rfl) (by rfl), f7_vestrylaw07_ValueBack_eq]
  unfold f7_vestrylaw07_ValueBack
  have c1 : pcall C (n + 300) 10 [] = _ := s10 (n + 170)
  have c2 : pcall C (n + 300) 24 [vRow vs] = _ := s24r (n + 100) vs
  have c4 := s25t (n + 300) b (by omega) hb
  have c5 : pcall C (n + 300) 24 [vRow (takeRowV b).1] = _ := s24r (n + 100) (takeRowV b).1
  have c7 := s28s (n + 300) vs vs (by omega) hv
  have te : (takeRowV b).2 ≠ 0 → (takeRowV b).1 = [] := tgo_err 8 b []
  have tw := row_written b
  have dd : ∀ l : List Vl, decide (l = l) = true := fun l => decide_eq_true rfl
  rw [dd] at c7
  have hrt := row_taken vs hi
  generalize takeRowV b = T at c4 c5 te tw ⊢
  obtain ⟨ys, f⟩ := T
  generalize rowVN vs = R at c2 hrt ⊢
  obtain ⟨x, e⟩ := R
  dsimp only at c2 c4 c5 te tw hrt
  simp only [c1, c2, callB_some, ok4, ok2942, needB_true, List.headD_cons, List.tail_cons, fvF, pvF, xsO, toB_bool, toI_int, ifB_eq, if_true]
  have tail : ∀ R : Option (List OV × List OV), True := fun _ => trivial
  by_cases he : e = 0
  · obtain ⟨r1, r2⟩ := hrt he
    have c3 := s25t (n + 300) x (by omega) (by omega)
    rw [r1] at c3
    subst he
    simp only [beq_self_eq_true, if_true, c3, c4, c7, callB_some, ok4, ok4025, needB_true, List.headD_cons, List.tail_cons, fvF, pvF, xsO, toB_bool, toI_int, bne_self_eq_false, Bool.false_eq_true, if_false, Bool.not_true]
    by_cases hf : f = 0
    · subst hf
      rw [tw rfl] at c5
      simp only [bne_self_eq_false, Bool.false_eq_true, if_false, c5, callB_some, ok2942, needB_true, List.headD_cons, List.tail_cons, fvF, pvF, xsO, toI_int, beq_self_eq_true, if_true, isByte_bb, u8_bb]
    · have hf' : ((f != (0 : Int)) : Bool) = true := by simpa using hf
      have h0 := te hf
      subst h0
      simp only [hf', if_true]
      rfl
  · have he' : ((e == (0 : Int)) : Bool) = false := by simpa using he
    simp only [he', Bool.false_eq_true, if_false, c4, callB_some, ok4025, needB_true, List.headD_cons, List.tail_cons, fvF, pvF, xsO, toB_bool, toI_int]
    by_cases hf : f = 0
    · subst hf
      rw [tw rfl] at c5
      simp only [bne_self_eq_false, Bool.false_eq_true, if_false, c5, callB_some, ok2942, needB_true, List.headD_cons, List.tail_cons, fvF, pvF, xsO, toI_int, beq_self_eq_true, if_true, isByte_bb, u8_bb]
    · have hf' : ((f != (0 : Int)) : Bool) = true := by simpa using hf
      have h0 := te hf
      subst h0
      simp only [hf', if_true]
      rfl
end Go.Proofs.YtgcjhapomljekaaDoor

