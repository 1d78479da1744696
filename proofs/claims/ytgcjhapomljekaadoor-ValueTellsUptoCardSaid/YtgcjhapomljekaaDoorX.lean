/- What the functions answer, and the laws. -/
import Derived.Test.YtgcjhapomljekaaDoorN
import Derived.Lib.Mul64
import Derived.Shelf.Bits.Mul64
import Derived.Lib.Bytealg

set_option linter.unusedVariables false

set_option linter.unusedSimpArgs false

set_option linter.unusedSectionVars false

open Go Go.Ev

set_option linter.unusedSimpArgs false

set_option linter.unusedVariables false

namespace Go.Proofs.YtgcjhapomljekaaDoor.X13

abbrev vI (n : Int) : OV := .flat (.val (.int .i64 n))
abbrev vU (n : Int) : OV := .flat (.val (.int .u64 n))
abbrev vB (b : Bool) : OV := .flat (.val (.bool b))
abbrev vV (k n : Int) (t : List UInt8) : OV := .flat (.val (.agg [.int .i64 k, .int .i64 n, .str t]))

/-- A value, and what comes back with one. -/
structure Vl where
  k : Int
  n : Int
  t : List UInt8
  deriving DecidableEq
structure Rs where
  v : Vl
  e : Int
  deriving DecidableEq
theorem Vl.eta (x : Vl) : Vl.mk x.k x.n x.t = x := rfl
theorem Rs.eta (x : Rs) : Rs.mk x.v x.e = x := rfl
def nullV : Vl := ⟨0, 0, []⟩
def numV (n : Int) : Vl := ⟨1, n, []⟩
def bitN : Bool → Int
  | true => 1
  | false => 0
@[simp] theorem bitN_true : bitN true = 1 := rfl
@[simp] theorem bitN_false : bitN false = 0 := rfl
def yesV (b : Bool) : Vl := ⟨1, bitN b, []⟩
def sameV (a b : Vl) : Bool := (a.k == b.k) && ((a.n == b.n) && ((a.t == b.t) && true))
theorem sameV_iff (a b : Vl) : sameV a b = true ↔ a = b := by
  cases a; cases b; simp [sameV]
theorem sameV_refl (a : Vl) : sameV a a = true := by rw [sameV_iff]

theorem ok4 (b : Bool) : okOs Go.Proofs.Tryd.prog [4] [] [vB b] = true := by kernel_rfl
theorem ok3 (n : Int) : okOs Go.Proofs.Tryd.prog [3] [] [vI n] = true := by kernel_rfl
theorem ok25 (n : Int) : okOs Go.Proofs.Tryd.prog [25] [] [vI n] = true := by kernel_rfl
theorem ok65 (n : Int) : okOs Go.Proofs.Tryd.prog [87] [] [vU n] = true := by kernel_rfl
theorem ok6565 (n m : Int) : okOs Go.Proofs.Tryd.prog [87, 87] [] [vU n, vU m] = true := by kernel_rfl
theorem ok325 (n m : Int) : okOs Go.Proofs.Tryd.prog [3, 25] [] [vI n, vI m] = true := by kernel_rfl
theorem ok34 (n : Int) (b : Bool) : okOs Go.Proofs.Tryd.prog [3, 4] [] [vI n, vB b] = true := by kernel_rfl
theorem ok425 (b : Bool) (n : Int) : okOs Go.Proofs.Tryd.prog [4, 25] [] [vB b, vI n] = true := by kernel_rfl
theorem ok23 (k n : Int) (t : List UInt8) : okOs Go.Proofs.Tryd.prog [23] [] [vV k n t] = true := by kernel_rfl
theorem ok2325 (k n : Int) (t : List UInt8) (e : Int) : okOs Go.Proofs.Tryd.prog [23, 25] [] [vV k n t, vI e] = true := by kernel_rfl
theorem hasT3 (n : Int) : hasT Go.Proofs.Tryd.prog 3 (.int .i64 n) = true := by kernel_rfl
theorem hasT23 (k n : Int) (t : List UInt8) : hasT Go.Proofs.Tryd.prog 23 (.agg [.int .i64 k, .int .i64 n, .str t]) = true := by kernel_rfl


@[simp] theorem needB_true {α : Type} (x : Option α) : needB true x = x := by
  have h : ∀ b : Bool, b = true → needB b x = x := by
    intro b hb
    subst hb
    rfl
  exact h true rfl
@[simp] theorem ifB_eq {α : Type} (b : Bool) (x y : Option α) : ifB b x y = if b = true then x else y := by cases b <;> rfl
@[simp] theorem callB_some {α β : Type} (a : α) (k : α → Option β) : callB (some a) k = k a := by
  have h : ∀ r : Option α, r = some a → callB r k = k a := by
    intro r hr
    subst hr
    rfl
  exact h _ rfl
theorem frzM_nil (r : Option (List OV × List OV)) : frzM [] r = r := by
  cases r with
  | none => rfl
  | some r => cases r with | mk a b => simp [frzM, frzR]
theorem pcall_step {n : Nat} {f : FuncId} {args : List OV} (h : C.prim f = none) (hf : C.frz f = [] := by rfl) : pcall C (n + 1) f args = callBody C (pcall C n) n f args := by
  show (match C.prim f with
    | some p => p args
    | none => frzM (C.frz f) (callBody C (pcall C n) n f args)) = _
  rw [h, hf]
  exact frzM_nil _
@[simp] theorem fvF (f : FV) : OV.fv (.flat f) = f := rfl
@[simp] theorem pvF (v : PV) : FV.pv (.val v) = v := rfl
@[simp] theorem cellsA (l : List PV) : PV.cells (.agg l) = l := rfl
@[simp] theorem toI_int (k : IntKind) (n : Int) : PV.toI (.int k n) = n := rfl
@[simp] theorem toB_bool (b : Bool) : PV.toB (.bool b) = b := rfl
@[simp] theorem toS_str (b : List UInt8) : PV.toS (.str b) = b := rfl
@[simp] theorem toL_sl (sh : Option Nat) (b : List PV) : PV.toL (.sl sh b) = b := rfl
attribute [simp] ok4 ok3 ok25 ok65 ok6565 ok325 ok34 ok425 ok23 ok2325 hasT3 hasT23

def inI (n : Int) : Prop := -9223372036854775808 ≤ n ∧ n ≤ 9223372036854775807
instance (n : Int) : Decidable (inI n) := inferInstanceAs (Decidable (_ ∧ _))
theorem wrap_in {n : Int} (h : inI n) : IntKind.wrap .i64 n = n := by
  rw [IntKind.wrap_i64]; unfold inI at h; omega

def rightN (v : Vl) : Int := if v.k < 0 ∨ v.k > 2 then 4 else if v.k ≠ 1 ∧ v.n ≠ 0 then 4 else if v.k ≠ 2 ∧ v.t ≠ [] then 4 else if v.t.length > 40 then 2 else 0
def holdsN (v : Vl) : Bool := v.k == 1 && v.n != 0
def bothN (o : Int) (a b : Vl) : Rs :=
  if a.k = 2 ∨ b.k = 2 then ⟨nullV, 9⟩
  else if o = 1 then (if holdsN a || holdsN b then ⟨numV 1, 0⟩ else if a.k = 0 ∨ b.k = 0 then ⟨nullV, 0⟩ else ⟨numV 0, 0⟩)
  else (if (a.k == 1 && a.n == 0) || (b.k == 1 && b.n == 0) then ⟨numV 0, 0⟩ else if a.k = 0 ∨ b.k = 0 then ⟨nullV, 0⟩ else ⟨numV 1, 0⟩)
def cmpN (a b : Vl) : Int := if a.k < b.k then -1 else if b.k < a.k then 1 else if a.n < b.n then -1 else if b.n < a.n then 1 else Lib.compareBytes a.t b.t
def testN (o : Int) (a b : Vl) : Vl :=
  let c := cmpN a b
  if o = 3 then yesV (c == 0) else if o = 4 then yesV (c != 0) else if o = 5 then yesV (decide (c < 0)) else if o = 6 then yesV (decide (c ≤ 0)) else if o = 7 then yesV (decide (c > 0)) else yesV (decide (c ≥ 0))
def fitN (n : Int) : Int × Int := if inI n then (n, 0) else (0, 7)
def sumsN (o a b : Int) : Int × Int :=
  if o = 9 then fitN (a + b) else if o = 10 then fitN (a - b) else if o = 11 then fitN (a * b)
  else if b = 0 then (0, 8) else if o = 12 then fitN (Int.tdiv a b) else (Int.tmod a b, 0)
def numR (r : Int × Int) : Rs := if r.2 = 0 then ⟨numV r.1, 0⟩ else ⟨nullV, r.2⟩
def opN (o : Int) (a b : Vl) : Rs :=
  if o < 1 ∨ o > 13 ∨ rightN a ≠ 0 ∨ rightN b ≠ 0 then ⟨nullV, 4⟩
  else if o ≤ 2 then bothN o a b
  else if a.k = 0 ∨ b.k = 0 then ⟨nullV, 0⟩
  else if o ≤ 8 then (if a.k ≠ b.k then ⟨nullV, 9⟩ else ⟨testN o a b, 0⟩)
  else if a.k = 2 ∨ b.k = 2 then ⟨nullV, 9⟩
  else numR (sumsN o a.n b.n)
def oneN (k : Int) (v : Vl) : Rs :=
  if k = 6 then ⟨yesV (v.k == 0), 0⟩ else if v.k = 0 then ⟨v, 0⟩ else if v.k = 2 then ⟨nullV, 9⟩
  else if k = 4 then ⟨yesV (v.n == 0), 0⟩ else numR (fitN (-v.n))
def knownN (v : Vl) : Rs := if rightN v ≠ 0 then ⟨nullV, 4⟩ else ⟨v, 0⟩

/-! ### small ones -/
theorem s27 (n : Nat) (k m : Int) (t : List UInt8) : pcall C (n + 1) 12 [vV k m t] = some ([vI (rightN ⟨k, m, t⟩)], []) := by
  rw [pcall_step (by rfl), f12_vestryref07_Right_eq]
  unfold f12_vestryref07_Right
  by_cases h1 : k < 0 <;> by_cases h2 : k > 2 <;> by_cases h3 : k = 1 <;> by_cases h4 : k = 2 <;> by_cases h5 : m = 0 <;> by_cases h6 : t = [] <;> by_cases h7 : t.length > 40 <;> first | omega | (simp [h1, h2, h3, h4, h5, h6, h7, rightN]; done) | (simp [h1, h2, h3, h4, h5, h6, h7, rightN]; omega)
theorem s32 (n : Nat) (k m : Int) (t : List UInt8) : pcall C (n + 1) 31 [vV k m t] = some ([vV k (if k = 0 ∨ k = 2 then 0 else m) (if k = 0 ∨ k = 1 then [] else t)], []) := by
  rw [pcall_step (by rfl), f31_value_bare_eq]
  unfold f31_value_bare
  by_cases h0 : k = 0
  · simp [h0]
  by_cases h1 : k = 1
  · simp [h1]
  by_cases h2 : k = 2
  · simp [h2]
  simp [h0, h1, h2]
theorem s11 (n : Nat) (k m : Int) (t : List UInt8) : pcall C (n + 2) 11 [vV k m t] = some ([vI (rightN ⟨k, m, t⟩)], []) := by
  rw [pcall_step (by rfl), f11_value_Right_eq]
  unfold f11_value_Right
  by_cases h1 : k < 0
  · simp [h1, rightN]
  by_cases h2 : k > 2
  · simp [h1, h2, rightN]
  simp only [s32, rightN]
  have h : k = 0 ∨ k = 1 ∨ k = 2 := by omega
  rcases h with h | h | h <;> subst h <;> by_cases h5 : m = 0 <;> by_cases h6 : t = [] <;> by_cases h7 : t.length > 40 <;> simp [h5, h6, h7]
  all_goals omega
end Go.Proofs.YtgcjhapomljekaaDoor.X13

open Go Go.Ev

set_option linter.unusedSimpArgs false

set_option linter.unusedVariables false

namespace Go.Proofs.YtgcjhapomljekaaDoor.X13

/-! ### products -/
theorem mask32 (a : Nat) (ha : a < 18446744073709551616) : ((BitVec.toNat ((BitVec.ofInt (IntKind.bits .u64) (a : Int)) &&& (BitVec.ofInt (IntKind.bits .u64) (4294967295 : Int))) : Nat) : Int) = ((a % 4294967296 : Nat) : Int) := by
  have e : a &&& 4294967295 = a % 4294967296 := Nat.and_two_pow_sub_one_eq_mod a 32
  have h1 : (BitVec.ofInt (IntKind.bits .u64) (a : Int)).toNat = a := by
    show (BitVec.ofInt 64 (a : Int)).toNat = a
    rw [BitVec.toNat_ofInt]
    omega
  have h2 : (BitVec.ofInt (IntKind.bits .u64) (4294967295 : Int)).toNat = 4294967295 := by decide
  rw [BitVec.toNat_and, h1, h2, e]
theorem div32 (a : Nat) : Int.fdiv (a : Int) ((2 : Int) ^ (min 32 (IntKind.bits .u64))) = ((a / 4294967296 : Nat) : Int) := by
  have : ((2 : Int) ^ (min 32 (IntKind.bits .u64))) = 4294967296 := by decide
  rw [this, Int.fdiv_eq_ediv_of_nonneg _ (by omega)]
  omega
theorem mul_abs (a b : Int) : (a * b = ((a.natAbs * b.natAbs : Nat) : Int) ∧ ((decide (a < 0) == decide (b < 0)) = true ∨ a * b = 0)) ∨ (a * b = -((a.natAbs * b.natAbs : Nat) : Int) ∧ ((decide (a < 0) == decide (b < 0)) = false ∨ a * b = 0)) := by
  by_cases h1 : a < 0 <;> by_cases h2 : b < 0
  · refine .inl ⟨?_, .inl (by simp [h1, h2])⟩
    have e1 : a = -(a.natAbs : Int) := by omega
    have e2 : b = -(b.natAbs : Int) := by omega
    conv => lhs; rw [e1, e2]
    rw [Int.neg_mul_neg, Int.natCast_mul]
  · refine .inr ⟨?_, .inl (by simp [h1, h2])⟩
    have e1 : a = -(a.natAbs : Int) := by omega
    have e2 : b = (b.natAbs : Int) := by omega
    conv => lhs; rw [e1, e2]
    rw [Int.neg_mul, Int.natCast_mul]
  · refine .inr ⟨?_, .inl (by simp [h1, h2])⟩
    have e1 : a = (a.natAbs : Int) := by omega
    have e2 : b = -(b.natAbs : Int) := by omega
    conv => lhs; rw [e1, e2]
    rw [Int.mul_neg, Int.natCast_mul]
  · refine .inl ⟨?_, .inl (by simp [h1, h2])⟩
    have e1 : a = (a.natAbs : Int) := by omega
    have e2 : b = (b.natAbs : Int) := by omega
    conv => lhs; rw [e1, e2]
    rw [Int.natCast_mul]
end Go.Proofs.YtgcjhapomljekaaDoor.X13

open Go Go.Ev

set_option linter.unusedSimpArgs false

set_option linter.unusedVariables false

namespace Go.Proofs.YtgcjhapomljekaaDoor.X13

theorem mx_abs (a : Int) (h : -9223372036854775808 < a) (h' : a ≤ 9223372036854775807) : mxI a (IntKind.wrap .i64 ((0 : Int) - a)) = (a.natAbs : Int) := by
  rw [IntKind.wrap_i64]
  unfold mxI
  split <;> omega
theorem tdivN (y : Nat) (hy : 0 < y) : IntKind.wrap .i64 (Int.tdiv (9223372036854775807 : Int) (y : Int)) = ((9223372036854775807 / y : Nat) : Int) := by
  have e : Int.tdiv (9223372036854775807 : Int) (y : Int) = ((9223372036854775807 / y : Nat) : Int) := rfl
  rw [e, IntKind.wrap_i64]
  have : 9223372036854775807 / y ≤ 9223372036854775807 := Nat.div_le_self _ _
  generalize 9223372036854775807 / y = q at this ⊢
  omega
theorem tdiv_fit (a b : Int) (ha : inI a) (hb : b ≠ 0) : (a = -9223372036854775808 ∧ b = -1) ∨ inI (Int.tdiv a b) := by
  have h : (Int.tdiv a b).natAbs = a.natAbs / b.natAbs := Int.natAbs_tdiv a b
  have h2 : a.natAbs / b.natAbs ≤ a.natAbs := Nat.div_le_self _ _
  unfold inI at ha ⊢
  by_cases h3 : b.natAbs = 1
  · have : b = 1 ∨ b = -1 := by omega
    rcases this with rfl | rfl
    · rw [Int.tdiv_one]; omega
    · rw [Int.tdiv_neg, Int.tdiv_one]; omega
  · right
    have h4 : a.natAbs / b.natAbs ≤ a.natAbs / 2 := Nat.div_le_div_left (by omega) (by omega)
    have : a.natAbs / 2 ≤ 4611686018427387904 := by omega
    omega
end Go.Proofs.YtgcjhapomljekaaDoor.X13

open Go Go.Ev

set_option linter.unusedSimpArgs false

set_option linter.unusedVariables false

set_option maxHeartbeats 1000000

namespace Go.Proofs.YtgcjhapomljekaaDoor.X13

theorem compareBytes_self : ∀ a : List UInt8, Lib.compareBytes a a = 0
  | [] => rfl
  | x :: a => by
    have : ¬ x < x := UInt8.lt_irrefl x
    simp only [Lib.compareBytes, this, if_false]
    exact compareBytes_self a
theorem compareBytes_eq : ∀ a b : List UInt8, Lib.compareBytes a b = if a = b then 0 else if Op.bytesLess a b then -1 else 1
  | [], [] => rfl
  | [], _ :: _ => rfl
  | _ :: _, [] => rfl
  | x :: a, y :: b => by
    simp only [Lib.compareBytes, Op.bytesLess]
    by_cases h1 : x < y
    · have : x ≠ y := fun h => UInt8.lt_irrefl y (h ▸ h1)
      simp [h1, this]
    · by_cases h2 : y < x
      · have : x ≠ y := fun h => UInt8.lt_irrefl y (h ▸ h2)
        simp [h1, h2, this]
      · have : x = y := UInt8.le_antisymm (UInt8.not_lt.1 h2) (UInt8.not_lt.1 h1)
        subst this
        simp only [h1, if_false, compareBytes_eq a b]
        simp
theorem s49 (n : Nat) (a b : List UInt8) : pcall C (n + 1) 34 [.flat (.val (.str a)), .flat (.val (.str b))] = some ([vI (Lib.compareBytes a b)], []) := rfl
theorem s52 (n : Nat) (a : Int) : pcall C (n + 1) 46 [vI a] = some ([vB false], []) := by
  rw [pcall_step (by rfl), f46_cmp_isNaN_int_eq]
  unfold f46_cmp_isNaN_int
  simp
theorem s48 (n : Nat) (a b : Int) : pcall C (n + 2) 33 [vI a, vI b] = some ([vI (if a < b then -1 else if b < a then 1 else 0)], []) := by
  rw [pcall_step (by rfl), f33_cmp_Compare_int_eq]
  unfold f33_cmp_Compare_int
  simp only [s52, callB_some, ok4, needB_true, List.headD_cons, fvF, pvF, toB_bool, ifB_eq]
  by_cases h : a < b
  · simp [h]
  by_cases h' : b < a <;> simp [h, h']
theorem s47 (n : Nat) (x y z : Int) : pcall C (n + 6) 32 [.flat (.val (.sl none [.int .i64 x, .int .i64 y, .int .i64 z]))] = some ([vI (if x ≠ 0 then x else if y ≠ 0 then y else z)], []) := by
  rw [pcall_step (by rfl), f32_cmp_Or_int_eq]
  unfold f32_cmp_Or_int f32_cmp_Or_int.pre
  have w1 : IntKind.wrap .i64 (0 + 1) = 1 := by decide
  have w2 : IntKind.wrap .i64 (1 + 1) = 2 := by decide
  have w3 : IntKind.wrap .i64 (2 + 1) = 3 := by decide
  have z0 : (0 : Int).toNat = 0 := rfl
  have z1 : (1 : Int).toNat = 1 := rfl
  have z2 : (2 : Int).toNat = 2 := rfl
  simp only [f32_cmp_Or_int.l0, f32_cmp_Or_int.l0.step, w1, w2, w3, z0, z1, z2, nthP, List.getD_cons_zero, List.getD_cons_succ, List.length_cons, List.length_nil, hasT3, toI_int]
  by_cases hx : x = 0
  · by_cases hy : y = 0
    · by_cases hz : z = 0 <;> simp [hx, hy, hz]
    · simp [hx, hy]
  · simp [hx]
theorem s41 (n : Nat) (k1 n1 : Int) (t1 : List UInt8) (k2 n2 : Int) (t2 : List UInt8) : pcall C (n + 7) 13 [vV k1 n1 t1, vV k2 n2 t2] = some ([vI (cmpN ⟨k1, n1, t1⟩ ⟨k2, n2, t2⟩)], []) := by
  rw [pcall_step (by rfl), f13_value_Compare_eq]
  unfold f13_value_Compare
  simp only [s48, s49, s47, callB_some, ok3, needB_true, List.headD_cons, fvF, pvF, toI_int, cmpN]
  by_cases h : k1 < k2
  · simp [h]
  by_cases h' : k2 < k1
  · simp [h, h']
  by_cases h3 : n1 < n2
  · simp [h, h', h3]
  by_cases h4 : n2 < n1
  · simp [h, h', h3, h4]
  simp [h, h', h3, h4]
theorem bneI (n : Int) : (n != 0) = !decide (n = 0) := by
  by_cases h : n = 0 <;> simp [h]
end Go.Proofs.YtgcjhapomljekaaDoor.X13

