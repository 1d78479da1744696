/- What the functions answer, and the laws. -/
import Derived.Test.YtoaclbilkoeghaaDoorN
import Derived.Lib.Mul64
import Derived.Shelf.Bits.Mul64
import Derived.Lib.Bytealg

set_option linter.unusedVariables false

set_option linter.unusedSimpArgs false

set_option linter.unusedSectionVars false

open Go Go.Ev

set_option linter.unusedSimpArgs false

set_option linter.unusedVariables false

namespace Go.Proofs.YtoaclbilkoeghaaDoor.X13

abbrev vI (n : Int) : OV := .flat (.val (.int .i64 n))
abbrev vU (n : Int) : OV := .flat (.val (.int .u64 n))
abbrev vB (b : Bool) : OV := .flat (.val (.bool b))
abbrev vV (k n : Int) (t : List UInt8) : OV := .flat (.val (.agg [.int .i64 k, .int .i64 n, .str t]))

/-- A value, and what comes back with one. -/
structure Vl where
  k : Int
  n : Int
  t : List UInt8
  deriving DecidableEq
structure Rs where
  v : Vl
  e : Int
  deriving DecidableEq
theorem Vl.eta (x : Vl) : Vl.mk x.k x.n x.t = x := rfl
theorem Rs.eta (x : Rs) : Rs.mk x.v x.e = x := rfl
def nullV : Vl := ⟨0, 0, []⟩
def numV (n : Int) : Vl := ⟨1, n, []⟩
def bitN : Bool → Int
  | true => 1
  | false => 0
@[simp] theorem bitN_true : bitN true = 1 := rfl
@[simp] theorem bitN_false : bitN false = 0 := rfl
def yesV (b : Bool) : Vl := ⟨1, bitN b, []⟩
def sameV (a b : Vl) : Bool := (a.k == b.k) && ((a.n == b.n) && ((a.t == b.t) && true))
theorem sameV_iff (a b : Vl) : sameV a b = true ↔ a = b := by
  cases a; cases b; simp [sameV]
theorem sameV_refl (a : Vl) : sameV a a = true := by rw [sameV_iff]

theorem ok4 (b : Bool) : okOs Go.Proofs.Tryd.prog [4] [] [vB b] = true := by kernel_rfl
theorem ok3 (n : Int) : okOs Go.Proofs.Tryd.prog [3] [] [vI n] = true := by kernel_rfl
theorem ok25 (n : Int) : okOs Go.Proofs.Tryd.prog [42] [] [vI n] = true := by kernel_rfl
theorem ok65 (n : Int) : okOs Go.Proofs.Tryd.prog [87] [] [vU n] = true := by kernel_rfl
theorem ok6565 (n m : Int) : okOs Go.Proofs.Tryd.prog [87, 87] [] [vU n, vU m] = true := by kernel_rfl
theorem ok325 (n m : Int) : okOs Go.Proofs.Tryd.prog [3, 42] [] [vI n, vI m] = true := by kernel_rfl
theorem ok34 (n : Int) (b : Bool) : okOs Go.Proofs.Tryd.prog [3, 4] [] [vI n, vB b] = true := by kernel_rfl
theorem ok425 (b : Bool) (n : Int) : okOs Go.Proofs.Tryd.prog [4, 42] [] [vB b, vI n] = true := by kernel_rfl
theorem ok23 (k n : Int) (t : List UInt8) : okOs Go.Proofs.Tryd.prog [23] [] [vV k n t] = true := by kernel_rfl
theorem ok2325 (k n : Int) (t : List UInt8) (e : Int) : okOs Go.Proofs.Tryd.prog [23, 42] [] [vV k n t, vI e] = true := by kernel_rfl
theorem hasT3 (n : Int) : hasT Go.Proofs.Tryd.prog 3 (.int .i64 n) = true := by kernel_rfl
theorem hasT23 (k n : Int) (t : List UInt8) : hasT Go.Proofs.Tryd.prog 23 (.agg [.int .i64 k, .int .i64 n, .str t]) = true := by kernel_rfl


@[simp] theorem needB_true {α : Type} (x : Option α) : needB true x = x := by
  have h : ∀ b : Bool, b = true → needB b x = x := by
    intro b hb
    subst hb
    rfl
  exact h true rfl
@[simp] theorem ifB_eq {α : Type} (b : Bool) (x y : Option α) : ifB b x y = if b = true then x else y := by cases b <;> rfl
@[simp] theorem callB_some {α β : Type} (a : α) (k : α → Option β) : callB (some a) k = k a := by
  have h : ∀ r : Option α, r = some a → callB r k = k a := by
    intro r hr
    subst hr
    rfl
  exact h _ rfl
theorem frzM_nil (r : Option (List OV × List OV)) : frzM [] r = r := by
  cases r with
  | none => rfl
  | some r => cases r with | mk a b => simp [frzM, frzR]
theorem pcall_step {n : Nat} {f : FuncId} {args : List OV} (h : C.prim f = none) (hf : C.frz f = [] := by rfl) : pcall C (n + 1) f args = callBody C (pcall C n) n f args := by
  show (match C.prim f with
    | some p => p args
    | none => frzM (C.frz f) (callBody C (pcall C n) n f args)) = _
  rw [h, hf]
  exact frzM_nil _
@[simp] theorem fvF (f : FV) : OV.fv (.flat f) = f := rfl
@[simp] theorem pvF (v : PV) : FV.pv (.val v) = v := rfl
@[simp] theorem cellsA (l : List PV) : PV.cells (.agg l) = l := rfl
@[simp] theorem toI_int (k : IntKind) (n : Int) : PV.toI (.int k n) = n := rfl
@[simp] theorem toB_bool (b : Bool) : PV.toB (.bool b) = b := rfl
@[simp] theorem toS_str (b : List UInt8) : PV.toS (.str b) = b := rfl
@[simp] theorem toL_sl (sh : Option Nat) (b : List PV) : PV.toL (.sl sh b) = b := rfl
attribute [simp] ok4 ok3 ok25 ok65 ok6565 ok325 ok34 ok425 ok23 ok2325 hasT3 hasT23

def inI (n : Int) : Prop := -9223372036854775808 ≤ n ∧ n ≤ 9223372036854775807
instance (n : Int) : Decidable (inI n) := inferInstanceAs (Decidable (_ ∧ _))
theorem wrap_in {n : Int} (h : inI n) : IntKind.wrap .i64 n = n := by
  rw [IntKind.wrap_i64]; unfold inI at h; omega

def rightN (v : Vl) : Int := if v.k < 0 ∨ v.k > 2 then 4 else if v.k ≠ 1 ∧ v.n ≠ 0 then 4 else if v.k ≠ 2 ∧ v.t ≠ [] then 4 else if v.t.length > 40 then 2 else 0
def holdsN (v : Vl) : Bool := v.k == 1 && v.n != 0
def bothN (o : Int) (a b : Vl) : Rs :=
  if a.k = 2 ∨ b.k = 2 then ⟨nullV, 9⟩
  else if o = 1 then (if holdsN a || holdsN b then ⟨numV 1, 0⟩ else if a.k = 0 ∨ b.k = 0 then ⟨nullV, 0⟩ else ⟨numV 0, 0⟩)
  else (if (a.k == 1 && a.n == 0) || (b.k == 1 && b.n == 0) then ⟨numV 0, 0⟩ else if a.k = 0 ∨ b.k = 0 then ⟨nullV, 0⟩ else ⟨numV 1, 0⟩)
def cmpN (a b : Vl) : Int := if a.k < b.k then -1 else if b.k < a.k then 1 else if a.n < b.n then -1 else if b.n < a.n then 1 else Lib.compareBytes a.t b.t
def testN (o : Int) (a b : Vl) : Vl :=
  let c := cmpN a b
  if o = 3 then yesV (c == 0) else if o = 4 then yesV (c != 0) else if o = 5 then yesV (decide (c < 0)) else if o = 6 then yesV (decide (c ≤ 0)) else if o = 7 then yesV (decide (c > 0)) else yesV (decide (c ≥ 0))
def fitN (n : Int) : Int × Int := if inI n then (n, 0) else (0, 7)
def sumsN (o a b : Int) : Int × Int :=
  if o = 9 then fitN (a + b) else if o = 10 then fitN (a - b) else if o = 11 then fitN (a * b)
  else if b = 0 then (0, 8) else if o = 12 then fitN (Int.tdiv a b) else (Int.tmod a b, 0)
def numR (r : Int × Int) : Rs := if r.2 = 0 then ⟨numV r.1, 0⟩ else ⟨nullV, r.2⟩
def opN (o : Int) (a b : Vl) : Rs :=
  if o < 1 ∨ o > 13 ∨ rightN a ≠ 0 ∨ rightN b ≠ 0 then ⟨nullV, 4⟩
  else if o ≤ 2 then bothN o a b
  else if a.k = 0 ∨ b.k = 0 then ⟨nullV, 0⟩
  else if o ≤ 8 then (if a.k ≠ b.k then ⟨nullV, 9⟩ else ⟨testN o a b, 0⟩)
  else if a.k = 2 ∨ b.k = 2 then ⟨nullV, 9⟩
  else numR (sumsN o a.n b.n)
def oneN (k : Int) (v : Vl) : Rs :=
  if k = 6 then ⟨yesV (v.k == 0), 0⟩ else if v.k = 0 then ⟨v, 0⟩ else if v.k = 2 then ⟨nullV, 9⟩
  else if k = 4 then ⟨yesV (v.n == 0), 0⟩ else numR (fitN (-v.n))
def knownN (v : Vl) : Rs := if rightN v ≠ 0 then ⟨nullV, 4⟩ else ⟨v, 0⟩

/-! ### small ones -/
theorem s25 (n : Nat) (a e : Int) : pcall C (n + 1) 61 [vI a, vI e] = some ([vV (numR (a, e)).v.k (numR (a, e)).v.n (numR (a, e)).v.t, vI (numR (a, e)).e], []) := by
  rw [pcall_step (by rfl), f61_eval_num_eq]
  unfold f61_eval_num
  by_cases h : e = 0 <;> simp [h, numR, numV, nullV]
theorem s42 (n : Nat) (b : Bool) : pcall C (n + 2) 63 [vB b] = some ([vV 1 (bitN b) [], vI 0], []) := by
  rw [pcall_step (by rfl), f63_eval_yes_eq]
  unfold f63_eval_yes
  cases b <;> simp [s25, numR, numV]
theorem s36 (n : Nat) (k m : Int) (t : List UInt8) : pcall C (n + 1) 42 [vV k m t] = some ([vB (holdsN ⟨k, m, t⟩)], []) := by
  rw [pcall_step (by rfl), f42_eval_holds_eq]
  unfold f42_eval_holds
  by_cases h : k = 1 <;> simp [h, holdsN]
theorem s40 (n : Nat) (k m : Int) (t : List UInt8) : pcall C (n + 1) 68 [vV k m t] = some ([vB (k == 1 && m == 0)], []) := by
  rw [pcall_step (by rfl), f68_eval_fails_eq]
  unfold f68_eval_fails
  by_cases h : k = 1 <;> simp [h]
theorem s27 (n : Nat) (k m : Int) (t : List UInt8) : pcall C (n + 1) 43 [vV k m t] = some ([vI (rightN ⟨k, m, t⟩)], []) := by
  rw [pcall_step (by rfl), f43_vestryref07_Right_eq]
  unfold f43_vestryref07_Right
  by_cases h1 : k < 0 <;> by_cases h2 : k > 2 <;> by_cases h3 : k = 1 <;> by_cases h4 : k = 2 <;> by_cases h5 : m = 0 <;> by_cases h6 : t = [] <;> by_cases h7 : t.length > 40 <;> first | omega | (simp [h1, h2, h3, h4, h5, h6, h7, rightN]; done) | (simp [h1, h2, h3, h4, h5, h6, h7, rightN]; omega)
theorem s32 (n : Nat) (k m : Int) (t : List UInt8) : pcall C (n + 1) 35 [vV k m t] = some ([vV k (if k = 0 ∨ k = 2 then 0 else m) (if k = 0 ∨ k = 1 then [] else t)], []) := by
  rw [pcall_step (by rfl), f35_value_bare_eq]
  unfold f35_value_bare
  by_cases h0 : k = 0
  · simp [h0]
  by_cases h1 : k = 1
  · simp [h1]
  by_cases h2 : k = 2
  · simp [h2]
  simp [h0, h1, h2]
theorem s11 (n : Nat) (k m : Int) (t : List UInt8) : pcall C (n + 2) 21 [vV k m t] = some ([vI (rightN ⟨k, m, t⟩)], []) := by
  rw [pcall_step (by rfl), f21_value_Right_eq]
  unfold f21_value_Right
  by_cases h1 : k < 0
  · simp [h1, rightN]
  by_cases h2 : k > 2
  · simp [h1, h2, rightN]
  simp only [s32, rightN]
  have h : k = 0 ∨ k = 1 ∨ k = 2 := by omega
  rcases h with h | h | h <;> subst h <;> by_cases h5 : m = 0 <;> by_cases h6 : t = [] <;> by_cases h7 : t.length > 40 <;> simp [h5, h6, h7]
  all_goals omega
end Go.Proofs.YtoaclbilkoeghaaDoor.X13

open Go Go.Ev

set_option linter.unusedSimpArgs false

set_option linter.unusedVariables false

namespace Go.Proofs.YtoaclbilkoeghaaDoor.X13

/-! ### products -/
theorem mask32 (a : Nat) (ha : a < 18446744073709551616) : ((BitVec.toNat ((BitVec.ofInt (IntKind.bits .u64) (a : Int)) &&& (BitVec.ofInt (IntKind.bits .u64) (4294967295 : Int))) : Nat) : Int) = ((a % 4294967296 : Nat) : Int) := by
  have e : a &&& 4294967295 = a % 4294967296 := Nat.and_two_pow_sub_one_eq_mod a 32
  have h1 : (BitVec.ofInt (IntKind.bits .u64) (a : Int)).toNat = a := by
    show (BitVec.ofInt 64 (a : Int)).toNat = a
    rw [BitVec.toNat_ofInt]
    omega
  have h2 : (BitVec.ofInt (IntKind.bits .u64) (4294967295 : Int)).toNat = 4294967295 := by decide
  rw [BitVec.toNat_and, h1, h2, e]
theorem div32 (a : Nat) : Int.fdiv (a : Int) ((2 : Int) ^ (min 32 (IntKind.bits .u64))) = ((a / 4294967296 : Nat) : Int) := by
  have : ((2 : Int) ^ (min 32 (IntKind.bits .u64))) = 4294967296 := by decide
  rw [this, Int.fdiv_eq_ediv_of_nonneg _ (by omega)]
  omega
theorem s50 (n : Nat) (x y : Nat) (hx : x < 18446744073709551616) (hy : y < 18446744073709551616) : pcall C (n + 1) 78 [vU x, vU y] = some ([vU ((x * y / 18446744073709551616 : Nat) : Int), vU ((x * y % 18446744073709551616 : Nat) : Int)], []) := by
  obtain ⟨bd, bt, bw, hhi⟩ := Lib.mul64_hi x y hx hy
  have ba := Lib.half_mul_le (a := x / 4294967296) (b := y / 4294967296) (by omega) (by omega)
  have bb := Lib.half_mul_le (a := x / 4294967296) (b := y % 4294967296) (by omega) (by omega)
  have bc := Lib.half_mul_le (a := x % 4294967296) (b := y / 4294967296) (by omega) (by omega)
  have ba' : x / 4294967296 * (y / 4294967296) < 18446744073709551616 := by omega
  have bb' : x / 4294967296 * (y % 4294967296) < 18446744073709551616 := by omega
  have bc' : x % 4294967296 * (y / 4294967296) < 18446744073709551616 := by omega
  have bh1 : x / 4294967296 * (y / 4294967296) + (x / 4294967296 * (y % 4294967296) + x % 4294967296 * (y % 4294967296) / 4294967296) / 4294967296 < 18446744073709551616 := by omega
  have bh : x / 4294967296 * (y / 4294967296) + (x / 4294967296 * (y % 4294967296) + x % 4294967296 * (y % 4294967296) / 4294967296) / 4294967296 + ((x / 4294967296 * (y % 4294967296) + x % 4294967296 * (y % 4294967296) / 4294967296) % 4294967296 + x % 4294967296 * (y / 4294967296)) / 4294967296 < 18446744073709551616 := by
    rw [hhi]
    have := Nat.mul_lt_mul'' hx hy
    omega
  rw [pcall_step (by rfl), f78_bits_Mul64_eq]
  unfold f78_bits_Mul64
  have m1 : x % 4294967296 < 18446744073709551616 := by omega
  have m2 : y % 4294967296 < 18446744073709551616 := by omega
  have m3 : (x / 4294967296 * (y % 4294967296) + x % 4294967296 * (y % 4294967296) / 4294967296) % 4294967296 < 18446744073709551616 := by omega
  simp only [mask32 x hx, mask32 y hy, div32, Mul64.wrapN _ m3, Mul64.mulN, Mul64.addN, Mul64.wrapN _ m1, Mul64.wrapN _ m2, Mul64.wrapN _ bd, Mul64.wrapN _ bb', Mul64.wrapN _ bt, mask32 _ bt, Mul64.wrapN _ bc', Mul64.wrapN _ bw, Mul64.wrapN _ ba', Mul64.wrapN _ bh1, Mul64.wrapN _ bh, Mul64.wrapM (x * y)]
  rw [hhi]
theorem s51 (n : Nat) (a : Int) (h : inI a) : pcall C (n + 1) 79 [vI a] = some ([vU (a.natAbs : Int)], []) := by
  rw [pcall_step (by rfl), f79_eval_size_eq]
  unfold f79_eval_size
  unfold inI at h
  by_cases h1 : a < 0
  · simp only [h1, decide_true, ifB_eq, if_true, IntKind.wrap_u64]
    have : ((0 : Int) - a % 18446744073709551616) % 18446744073709551616 = (a.natAbs : Int) := by omega
    rw [this]
  · simp only [h1, decide_false, ifB_eq, IntKind.wrap_u64]
    have : a % 18446744073709551616 = (a.natAbs : Int) := by omega
    simp [this]
theorem mul_abs (a b : Int) : (a * b = ((a.natAbs * b.natAbs : Nat) : Int) ∧ ((decide (a < 0) == decide (b < 0)) = true ∨ a * b = 0)) ∨ (a * b = -((a.natAbs * b.natAbs : Nat) : Int) ∧ ((decide (a < 0) == decide (b < 0)) = false ∨ a * b = 0)) := by
  by_cases h1 : a < 0 <;> by_cases h2 : b < 0
  · refine .inl ⟨?_, .inl (by simp [h1, h2])⟩
    have e1 : a = -(a.natAbs : Int) := by omega
    have e2 : b = -(b.natAbs : Int) := by omega
    conv => lhs; rw [e1, e2]
    rw [Int.neg_mul_neg, Int.natCast_mul]
  · refine .inr ⟨?_, .inl (by simp [h1, h2])⟩
    have e1 : a = -(a.natAbs : Int) := by omega
    have e2 : b = (b.natAbs : Int) := by omega
    conv => lhs; rw [e1, e2]
    rw [Int.neg_mul, Int.natCast_mul]
  · refine .inr ⟨?_, .inl (by simp [h1, h2])⟩
    have e1 : a = (a.natAbs : Int) := by omega
    have e2 : b = -(b.natAbs : Int) := by omega
    conv => lhs; rw [e1, e2]
    rw [Int.mul_neg, Int.natCast_mul]
  · refine .inl ⟨?_, .inl (by simp [h1, h2])⟩
    have e1 : a = (a.natAbs : Int) := by omega
    have e2 : b = (b.natAbs : Int) := by omega
    conv => lhs; rw [e1, e2]
    rw [Int.natCast_mul]
theorem s43 (n : Nat) (a b : Int) (ha : inI a) (hb : inI b) : pcall C (n + 2) 69 [vI a, vI b] = some ([vI (fitN (a * b)).1, vI (fitN (a * b)).2], []) := by
  have la : a.natAbs < 18446744073709551616 := by unfold inI at ha; omega
  have lb : b.natAbs < 18446744073709551616 := by unfold inI at hb; omega
  rw [pcall_step (by rfl), f69_eval_times_eq]
  unfold f69_eval_times
  simp only [s51 _ _ ha, s51 _ _ hb, callB_some, ok65, needB_true, List.headD_cons, List.tail_cons, fvF, pvF, toI_int, s50 _ _ _ la lb, ok6565, ifB_eq]
  have key := mul_abs a b
  generalize hp : a.natAbs * b.natAbs = p at key ⊢
  generalize hm : a * b = m at key ⊢
  unfold fitN
  generalize (decide (a < 0) == decide (b < 0)) = s at key ⊢
  have hw : inI m → IntKind.wrap .i64 m = m := wrap_in
  unfold inI at hw ⊢
  by_cases c1 : ((p / 18446744073709551616 : Nat) : Int) > 0
  · have : ¬ (-9223372036854775808 ≤ m ∧ m ≤ 9223372036854775807) := by omega
    simp only [c1, this, decide_true, if_true, if_false]
  · by_cases c2 : ((p % 18446744073709551616 : Nat) : Int) > 9223372036854775808
    · have : ¬ (-9223372036854775808 ≤ m ∧ m ≤ 9223372036854775807) := by omega
      simp only [c1, c2, this]
      simp
    · have c1' : p < 18446744073709551616 := by omega
      have c2' : p ≤ 9223372036854775808 := by omega
      have hpm : p % 18446744073709551616 = p := by omega
      simp only [c1, c2, decide_false]
      simp only [hpm]
      by_cases c3 : p = 9223372036854775808
      · subst c3
        cases s with
        | true =>
          have : m = 9223372036854775808 := by
            rcases key with ⟨k1, k2⟩ | ⟨k1, k2⟩
            · omega
            · rcases k2 with k2 | k2
              · cases k2
              · omega
          subst this
          simp
        | false =>
          have : m = -9223372036854775808 := by
            rcases key with ⟨k1, k2⟩ | ⟨k1, k2⟩
            · rcases k2 with k2 | k2
              · cases k2
              · omega
            · omega
          subst this
          simp [IntKind.wrap_i64]
      · have c3' : ¬ ((p : Int) = 9223372036854775808) := by omega
        have : (-9223372036854775808 ≤ m ∧ m ≤ 9223372036854775807) := by omega
        simp [c3', this, hw this]
end Go.Proofs.YtoaclbilkoeghaaDoor.X13

open Go Go.Ev

set_option linter.unusedSimpArgs false

set_option linter.unusedVariables false

namespace Go.Proofs.YtoaclbilkoeghaaDoor.X13

theorem mx_abs (a : Int) (h : -9223372036854775808 < a) (h' : a ≤ 9223372036854775807) : mxI a (IntKind.wrap .i64 ((0 : Int) - a)) = (a.natAbs : Int) := by
  rw [IntKind.wrap_i64]
  unfold mxI
  split <;> omega
theorem tdivN (y : Nat) (hy : 0 < y) : IntKind.wrap .i64 (Int.tdiv (9223372036854775807 : Int) (y : Int)) = ((9223372036854775807 / y : Nat) : Int) := by
  have e : Int.tdiv (9223372036854775807 : Int) (y : Int) = ((9223372036854775807 / y : Nat) : Int) := rfl
  rw [e, IntKind.wrap_i64]
  have : 9223372036854775807 / y ≤ 9223372036854775807 := Nat.div_le_self _ _
  generalize 9223372036854775807 / y = q at this ⊢
  omega
theorem tdiv_fit (a b : Int) (ha : inI a) (hb : b ≠ 0) : (a = -9223372036854775808 ∧ b = -1) ∨ inI (Int.tdiv a b) := by
  have h : (Int.tdiv a b).natAbs = a.natAbs / b.natAbs := Int.natAbs_tdiv a b
  have h2 : a.natAbs / b.natAbs ≤ a.natAbs := Nat.div_le_self _ _
  unfold inI at ha ⊢
  by_cases h3 : b.natAbs = 1
  · have : b = 1 ∨ b = -1 := by omega
    rcases this with rfl | rfl
    · rw [Int.tdiv_one]; omega
    · rw [Int.tdiv_neg, Int.tdiv_one]; omega
  · right
    have h4 : a.natAbs / b.natAbs ≤ a.natAbs / 2 := Nat.div_le_div_left (by omega) (by omega)
    have : a.natAbs / 2 ≤ 4611686018427387904 := by omega
    omega
theorem s26 (n : Nat) (o a b : Int) (ha : inI a) (hb : inI b) (ho : 9 ≤ o ∧ o ≤ 13) : pcall C (n + 3) 62 [vI o, vI a, vI b] = some ([vI (sumsN o a b).1, vI (sumsN o a b).2], []) := by
  rw [pcall_step (by rfl), f62_eval_reckon_eq]
  unfold f62_eval_reckon
  have cs : o = 9 ∨ o = 10 ∨ o = 11 ∨ o = 12 ∨ o = 13 := by omega
  rcases cs with rfl | rfl | rfl | rfl | rfl
  · simp only [sumsN, fitN]
    by_cases h : inI (a + b)
    · have : (decide (IntKind.wrap .i64 (a + b) > a) == decide (b > 0)) = true := by
        rw [wrap_in h]
        by_cases h2 : b > 0
        · simp [h2]; omega
        · simp [h2]; omega
      rw [wrap_in h] at this ⊢
      simp only [ifB_eq, if_true, this, h, beq_self_eq_true]
    · have : (decide (IntKind.wrap .i64 (a + b) > a) == decide (b > 0)) = false := by
        rw [IntKind.wrap_i64]
        unfold inI at h ha hb
        by_cases h2 : b > 0
        · simp [h2]; omega
        · simp [h2]; omega
      simp only [beq_self_eq_true, ifB_eq, if_true, this, h]
      simp
  · simp only [sumsN, fitN]
    by_cases h : inI (a - b)
    · have : (decide (IntKind.wrap .i64 (a - b) < a) == decide (b > 0)) = true := by
        rw [wrap_in h]
        by_cases h2 : b > 0
        · simp [h2]; omega
        · simp [h2]; omega
      rw [wrap_in h] at this ⊢
      simp only [ifB_eq, this, h]
      simp
    · have : (decide (IntKind.wrap .i64 (a - b) < a) == decide (b > 0)) = false := by
        rw [IntKind.wrap_i64]
        unfold inI at h ha hb
        by_cases h2 : b > 0
        · simp [h2]; omega
        · simp [h2]; omega
      simp only [ifB_eq, if_true, this, h]
      simp
  · simp [sumsN, s43 _ a b ha hb]
  · by_cases h0 : b = 0
    · simp [sumsN, h0]
    · have h := tdiv_fit a b ha h0
      have hb0 : (b != 0) = true := by simp [h0]
      by_cases h1 : a = -9223372036854775808
      · by_cases h2 : b = -1
        · subst h1; subst h2; simp [sumsN, fitN, inI]
        · have h3 : inI (Int.tdiv a b) := by rcases h with h | h; exact absurd h.2 h2; exact h
          have w := wrap_in h3
          simp only [sumsN, fitN, h0, h3, w, h2, hb0, needB_true, ifB_eq]
          simp [h0, h2]
      · have h3 : inI (Int.tdiv a b) := by rcases h with h | h; exact absurd h.1 h1; exact h
        simp [sumsN, fitN, h0, h1, h3, hb0, wrap_in h3]
  · by_cases h0 : b = 0
    · simp [sumsN, h0]
    · have hb0 : (b != 0) = true := by simp [h0]
      simp [sumsN, h0, hb0]
end Go.Proofs.YtoaclbilkoeghaaDoor.X13

open Go Go.Ev

set_option linter.unusedSimpArgs false

set_option linter.unusedVariables false

set_option maxHeartbeats 1000000

namespace Go.Proofs.YtoaclbilkoeghaaDoor.X13

theorem compareBytes_self : ∀ a : List UInt8, Lib.compareBytes a a = 0
  | [] => rfl
  | x :: a => by
    have : ¬ x < x := UInt8.lt_irrefl x
    simp only [Lib.compareBytes, this, if_false]
    exact compareBytes_self a
theorem compareBytes_eq : ∀ a b : List UInt8, Lib.compareBytes a b = if a = b then 0 else if Op.bytesLess a b then -1 else 1
  | [], [] => rfl
  | [], _ :: _ => rfl
  | _ :: _, [] => rfl
  | x :: a, y :: b => by
    simp only [Lib.compareBytes, Op.bytesLess]
    by_cases h1 : x < y
    · have : x ≠ y := fun h => UInt8.lt_irrefl y (h ▸ h1)
      simp [h1, this]
    · by_cases h2 : y < x
      · have : x ≠ y := fun h => UInt8.lt_irrefl y (h ▸ h2)
        simp [h1, h2, this]
      · have : x = y := UInt8.le_antisymm (UInt8.not_lt.1 h2) (UInt8.not_lt.1 h1)
        subst this
        simp only [h1, if_false, compareBytes_eq a b]
        simp
theorem s49 (n : Nat) (a b : List UInt8) : pcall C (n + 1) 40 [.flat (.val (.str a)), .flat (.val (.str b))] = some ([vI (Lib.compareBytes a b)], []) := rfl
theorem s52 (n : Nat) (a : Int) : pcall C (n + 1) 49 [vI a] = some ([vB false], []) := by
  rw [pcall_step (by rfl), f49_cmp_isNaN_int_eq]
  unfold f49_cmp_isNaN_int
  simp
theorem s48 (n : Nat) (a b : Int) : pcall C (n + 2) 39 [vI a, vI b] = some ([vI (if a < b then -1 else if b < a then 1 else 0)], []) := by
  rw [pcall_step (by rfl), f39_cmp_Compare_int_eq]
  unfold f39_cmp_Compare_int
  simp only [s52, callB_some, ok4, needB_true, List.headD_cons, fvF, pvF, toB_bool, ifB_eq]
  by_cases h : a < b
  · simp [h]
  by_cases h' : b < a <;> simp [h, h']
theorem s47 (n : Nat) (x y z : Int) : pcall C (n + 6) 38 [.flat (.val (.sl none [.int .i64 x, .int .i64 y, .int .i64 z]))] = some ([vI (if x ≠ 0 then x else if y ≠ 0 then y else z)], []) := by
  rw [pcall_step (by rfl), f38_cmp_Or_int_eq]
  unfold f38_cmp_Or_int f38_cmp_Or_int.pre
  have w1 : IntKind.wrap .i64 (0 + 1) = 1 := by decide
  have w2 : IntKind.wrap .i64 (1 + 1) = 2 := by decide
  have w3 : IntKind.wrap .i64 (2 + 1) = 3 := by decide
  have z0 : (0 : Int).toNat = 0 := rfl
  have z1 : (1 : Int).toNat = 1 := rfl
  have z2 : (2 : Int).toNat = 2 := rfl
  simp only [f38_cmp_Or_int.l0, f38_cmp_Or_int.l0.step, w1, w2, w3, z0, z1, z2, nthP, List.getD_cons_zero, List.getD_cons_succ, List.length_cons, List.length_nil, hasT3, toI_int]
  by_cases hx : x = 0
  · by_cases hy : y = 0
    · by_cases hz : z = 0 <;> simp [hx, hy, hz]
    · simp [hx, hy]
  · simp [hx]
theorem s41 (n : Nat) (k1 n1 : Int) (t1 : List UInt8) (k2 n2 : Int) (t2 : List UInt8) : pcall C (n + 7) 24 [vV k1 n1 t1, vV k2 n2 t2] = some ([vI (cmpN ⟨k1, n1, t1⟩ ⟨k2, n2, t2⟩)], []) := by
  rw [pcall_step (by rfl), f24_value_Compare_eq]
  unfold f24_value_Compare
  simp only [s48, s49, s47, callB_some, ok3, needB_true, List.headD_cons, fvF, pvF, toI_int, cmpN]
  by_cases h : k1 < k2
  · simp [h]
  by_cases h' : k2 < k1
  · simp [h, h']
  by_cases h3 : n1 < n2
  · simp [h, h', h3]
  by_cases h4 : n2 < n1
  · simp [h, h', h3, h4]
  simp [h, h', h3, h4]
theorem s23 (n : Nat) (o k1 n1 : Int) (t1 : List UInt8) (k2 n2 : Int) (t2 : List UInt8) (ho : o = 1 ∨ o = 2) (h1 : 0 ≤ k1 ∧ k1 ≤ 2) (h2 : 0 ≤ k2 ∧ k2 ≤ 2) : pcall C (n + 2) 59 [vI o, vV k1 n1 t1, vV k2 n2 t2] = some ([vV (bothN o ⟨k1, n1, t1⟩ ⟨k2, n2, t2⟩).v.k (bothN o ⟨k1, n1, t1⟩ ⟨k2, n2, t2⟩).v.n (bothN o ⟨k1, n1, t1⟩ ⟨k2, n2, t2⟩).v.t, vI (bothN o ⟨k1, n1, t1⟩ ⟨k2, n2, t2⟩).e], []) := by
  rw [pcall_step (by rfl), f59_eval_logic_eq]
  unfold f59_eval_logic
  have c1 : k1 = 0 ∨ k1 = 1 ∨ k1 = 2 := by omega
  have c2 : k2 = 0 ∨ k2 = 1 ∨ k2 = 2 := by omega
  rcases ho with rfl | rfl <;> rcases c1 with rfl | rfl | rfl <;> rcases c2 with rfl | rfl | rfl <;> by_cases a0 : n1 = 0 <;> by_cases b0 : n2 = 0 <;> simp [s36, s40, bothN, holdsN, nullV, numV, a0, b0]
theorem bneI (n : Int) : (n != 0) = !decide (n = 0) := by
  by_cases h : n = 0 <;> simp [h]
theorem s24 (n : Nat) (o k1 n1 : Int) (t1 : List UInt8) (k2 n2 : Int) (t2 : List UInt8) (ho : 3 ≤ o ∧ o ≤ 8) : pcall C (n + 8) 60 [vI o, vV k1 n1 t1, vV k2 n2 t2] = some (if k1 ≠ k2 then [vV 0 0 [], vI 9] else [vV (testN o ⟨k1, n1, t1⟩ ⟨k2, n2, t2⟩).k (testN o ⟨k1, n1, t1⟩ ⟨k2, n2, t2⟩).n (testN o ⟨k1, n1, t1⟩ ⟨k2, n2, t2⟩).t, vI 0], []) := by
  rw [pcall_step (by rfl), f60_eval_test_eq]
  unfold f60_eval_test
  simp only [s41, callB_some, ok3, needB_true, List.headD_cons, fvF, pvF, toI_int, testN]
  by_cases hk : k1 = k2
  · subst hk
    generalize cmpN ⟨k1, n1, t1⟩ ⟨k1, n2, t2⟩ = c
    have cs : o = 3 ∨ o = 4 ∨ o = 5 ∨ o = 6 ∨ o = 7 ∨ o = 8 := by omega
    rcases cs with rfl | rfl | rfl | rfl | rfl | rfl
    · simp [s42, yesV]; try rfl
    · simp [s42, yesV]; try rfl
    · simp [s42, yesV]; try rfl
    · by_cases h0 : c = 0
      · simp [s42, yesV, h0]; try rfl
      · have : decide (c ≤ 0) = decide (c < 0) := by
          rw [decide_eq_decide]
          omega
        simp only [this]
        simp [s42, yesV, h0]; try rfl
    · simp [s42, yesV]; try rfl
    · by_cases h0 : c = 0
      · simp [s42, yesV, h0]; try rfl
      · have : decide (c ≥ 0) = decide (c > 0) := by
          rw [decide_eq_decide]
          omega
        simp only [this]
        simp [s42, yesV, h0]; try rfl
  · simp [hk]
end Go.Proofs.YtoaclbilkoeghaaDoor.X13

open Go Go.Ev

set_option linter.unusedSimpArgs false

set_option linter.unusedVariables false

set_option maxHeartbeats 1000000

namespace Go.Proofs.YtoaclbilkoeghaaDoor.X13

theorem right_kind {v : Vl} (h : rightN v = 0) : 0 ≤ v.k ∧ v.k ≤ 2 := by
  unfold rightN at h
  by_cases h1 : v.k < 0 ∨ v.k > 2
  · simp [h1] at h
  · omega
theorem s9 (n : Nat) (o k1 n1 : Int) (t1 : List UInt8) (k2 n2 : Int) (t2 : List UInt8) (h1 : inI n1) (h2 : inI n2) : pcall C (n + 9) 52 [vI o, vV k1 n1 t1, vV k2 n2 t2] = some ([vV (opN o ⟨k1, n1, t1⟩ ⟨k2, n2, t2⟩).v.k (opN o ⟨k1, n1, t1⟩ ⟨k2, n2, t2⟩).v.n (opN o ⟨k1, n1, t1⟩ ⟨k2, n2, t2⟩).v.t, vI (opN o ⟨k1, n1, t1⟩ ⟨k2, n2, t2⟩).e], []) := by
  rw [pcall_step (by rfl), f52_eval_Op_eq]
  unfold f52_eval_Op
  unfold opN
  simp only [s11, callB_some, ok25, needB_true, List.headD_cons, fvF, pvF, toI_int]
  by_cases c1 : o < 1
  · simp [c1, nullV]
  by_cases c2 : o > 13
  · simp [c1, c2, nullV]
  by_cases c3 : rightN ⟨k1, n1, t1⟩ ≠ 0
  · simp [c1, c2, c3, nullV]
  have c3 := Decidable.not_not.1 c3
  by_cases c4 : rightN ⟨k2, n2, t2⟩ ≠ 0
  · simp [c1, c2, c3, c4, nullV]
  have c4 := Decidable.not_not.1 c4
  have r1 := right_kind c3
  have r2 := right_kind c4
  dsimp only at r1 r2
  simp only [c1, c2, c3, c4, decide_false, bne_self_eq_false, ifB_eq, Bool.false_eq_true, if_false, ne_eq, not_true_eq_false, or_self]
  clear c3 c4
  by_cases c5 : o ≤ 2
  · have ho : o = 1 ∨ o = 2 := by omega
    simp only [c5, s23 _ o k1 n1 t1 k2 n2 t2 ho r1 r2]
    simp
  by_cases c6 : k1 = 0
  · simp [c5, c6, nullV]
  by_cases c7 : k2 = 0
  · simp [c5, c6, c7, nullV]
  by_cases c8 : o ≤ 8
  · have ho : 3 ≤ o ∧ o ≤ 8 := by omega
    simp only [c5, c6, c7, c8, s24 _ o k1 n1 t1 k2 n2 t2 ho]
    by_cases c9 : k1 = k2 <;> simp [c6, c7, c9, nullV]
  by_cases c9 : k1 = 2
  · simp [c5, c6, c7, c8, c9, nullV]
  by_cases c10 : k2 = 2
  · simp [c5, c6, c7, c8, c9, c10, nullV]
  have ho : 9 ≤ o ∧ o ≤ 13 := by omega
  simp only [c5, c6, c7, c8, c9, c10, s26 _ o n1 n2 h1 h2 ho, callB_some, ok325, needB_true, List.headD_cons, List.tail_cons, fvF, pvF, toI_int, s25]
  simp [c6, c7, c9, c10]
theorem s33 (n : Nat) (k m : Int) (t : List UInt8) : pcall C (n + 3) 51 [vV k m t] = some ([vV (knownN ⟨k, m, t⟩).v.k (knownN ⟨k, m, t⟩).v.n (knownN ⟨k, m, t⟩).v.t, vI (knownN ⟨k, m, t⟩).e], []) := by
  rw [pcall_step (by rfl), f51_eval_known_eq]
  unfold f51_eval_known knownN
  by_cases h : rightN ⟨k, m, t⟩ = 0 <;> simp [s11, h, nullV]
theorem neg_fit (m : Int) (h : inI m) : if m = -9223372036854775808 then ¬ inI (-m) else inI (-m) ∧ IntKind.wrap .i64 (0 - m) = -m := by
  unfold inI at h ⊢
  split
  · omega
  · rw [IntKind.wrap_i64]; omega
theorem s34 (n : Nat) (o k m : Int) (t : List UInt8) (hm : inI m) : pcall C (n + 3) 53 [vI o, vV k m t] = some ([vV (oneN o ⟨k, m, t⟩).v.k (oneN o ⟨k, m, t⟩).v.n (oneN o ⟨k, m, t⟩).v.t, vI (oneN o ⟨k, m, t⟩).e], []) := by
  rw [pcall_step (by rfl), f53_eval_one_eq]
  unfold f53_eval_one oneN
  have w := neg_fit m hm
  by_cases c1 : o = 6
  · simp [c1, s42, yesV]
  by_cases c2 : k = 0
  · simp [c1, c2]
  by_cases c3 : k = 2
  · simp [c1, c2, c3, nullV]
  by_cases c4 : o = 4
  · simp [c1, c2, c3, c4, s42, yesV]
  by_cases c5 : m = -9223372036854775808
  · simp only [c5, if_true] at w
    simp only [c1, c2, c3, c4, c5, fitN, w]
    simp [c1, c2, c3, c4, numR, nullV]
  · simp only [c5, if_false] at w
    rw [w.2]
    simp only [c1, c2, c3, c4, c5, fitN, w.1, s25]
    simp [c1, c2, c3, c4, c5]
end Go.Proofs.YtoaclbilkoeghaaDoor.X13

open Go Go.Ev

set_option linter.unusedSimpArgs false

set_option linter.unusedVariables false

set_option maxHeartbeats 1000000

namespace Go.Proofs.YtoaclbilkoeghaaDoor.X13

theorem s17 (n : Nat) (a : Int) : pcall C (n + 1) 22 [vI a] = some ([vV 1 a []], []) := by
  rw [pcall_step (by rfl), f22_vestrylaw07_Num_eq]
  rfl
end Go.Proofs.YtoaclbilkoeghaaDoor.X13

open Go Go.Ev

set_option linter.unusedSimpArgs false

set_option linter.unusedVariables false

set_option maxHeartbeats 1000000

namespace Go.Proofs.YtoaclbilkoeghaaDoor.X13

/-! ### expressions -/
abbrev pV (k n : Int) (t : List UInt8) : PV := .agg [.int .i64 k, .int .i64 n, .str t]
abbrev pE (k o : Int) (s1 s2 : List UInt8) (vk vn : Int) (vt : List UInt8) (gs : List PV) : PV := .agg [.int .i64 k, .int .i64 o, .str s1, .str s2, .int .i64 vk, .int .i64 vn, .str vt, .sl (some 8) gs]
abbrev vP (p : PV) : OV := .flat (.val p)
inductive IsE : PV → Prop
  | mk (k o : Int) (s1 s2 : List UInt8) (vk vn : Int) (vt : List UInt8) (gs : List PV) (hn : inI vn) (h : ∀ x ∈ gs, IsE x) : IsE (pE k o s1 s2 vk vn vt gs)
def IsV (x : PV) : Prop := ∃ k n t, x = pV k n t ∧ inI n
theorem IsE.inv {e : PV} (h : IsE e) : ∃ k o s1 s2 vk vn vt gs, e = pE k o s1 s2 vk vn vt gs ∧ inI vn ∧ ∀ x ∈ gs, IsE x := by
  cases h with
  | mk k o s1 s2 vk vn vt gs hn h => exact ⟨k, o, s1, s2, vk, vn, vt, gs, rfl, hn, h⟩
def argsOf (e : PV) : List PV := (e.cells.getD 7 .undef).toL
def eK (e : PV) : Int := (e.cells.getD 0 .undef).toI
def eO (e : PV) : Int := (e.cells.getD 1 .undef).toI
def eV (e : PV) : Vl := ⟨(e.cells.getD 4 .undef).toI, (e.cells.getD 5 .undef).toI, (e.cells.getD 6 .undef).toS⟩
def valOf (x : PV) : Vl := ⟨(x.cells.getD 0 .undef).toI, (x.cells.getD 1 .undef).toI, (x.cells.getD 2 .undef).toS⟩
theorem argsOf_pE (k o s1 s2 vk vn vt gs) : argsOf (pE k o s1 s2 vk vn vt gs) = gs := rfl
theorem eK_pE (k o s1 s2 vk vn vt gs) : eK (pE k o s1 s2 vk vn vt gs) = k := rfl
theorem eO_pE (k o s1 s2 vk vn vt gs) : eO (pE k o s1 s2 vk vn vt gs) = o := rfl
theorem eV_pE (k o s1 s2 vk vn vt gs) : eV (pE k o s1 s2 vk vn vt gs) = ⟨vk, vn, vt⟩ := rfl
theorem hasT35 (k o s1 s2 vk vn vt gs) : hasT Go.Proofs.Tryd.prog 26 (pE k o s1 s2 vk vn vt gs) = true := by kernel_rfl
def fewN : Nat → PV → Bool
  | 0, _ => false
  | d + 1, e => decide ((argsOf e).length ≤ 3) && (argsOf e).all (fewN d)
theorem nthP_lt {gs : List PV} {i : Nat} (h : i < gs.length) : nthP gs i = gs[i] := by
  simp [nthP, List.getD, List.getElem?_eq_getElem h]
theorem wrap_nat (i : Nat) (h : i < 9223372036854775807) : IntKind.wrap .i64 ((i : Int) + 1) = ((i + 1 : Nat) : Int) := by
  rw [IntKind.wrap_i64]; omega

theorem few_loop (rec : Rec) (n : Nat) (x0 k o : Int) (s1 s2 : List UInt8) (vk vn : Int) (vt : List UInt8) (gs : List PV) (p : PV → Bool) (hE : ∀ x ∈ gs, IsE x) (hlen : gs.length ≤ 3)
    (hrec : ∀ x ∈ gs, rec 9 [vP x, vI (IntKind.wrap .i64 (x0 - 1))] = some ([vB (p x)], [])) :
    ∀ (m i : Nat), gs.length < m + i → i ≤ gs.length → f9_vestrylaw15_few.l0 rec n m x0 k o s1 s2 vk vn vt gs (i : Int) = some ([vB ((gs.drop i).all p)], [])
  | 0, i, h1, h2 => by omega
  | m + 1, i, h1, h2 => by
    show f9_vestrylaw15_few.l0.step rec n (f9_vestrylaw15_few.l0 rec n m) x0 k o s1 s2 vk vn vt gs (i : Int) = _
    unfold f9_vestrylaw15_few.l0.step
    by_cases hi : i < gs.length
    · have hx := hE gs[i] (List.getElem_mem hi)
      have hr := hrec gs[i] (List.getElem_mem hi)
      obtain ⟨k', o', s1', s2', vk', vn', vt', gs', he, _, _⟩ := hx.inv
      have hd : gs.drop i = gs[i] :: gs.drop (i + 1) := (List.drop_eq_getElem_cons hi)
      have w := wrap_nat i (by omega)
      have c1 : ((i : Int) < (gs.length : Int)) := by omega
      have c2 : (0 : Int) ≤ (i : Int) := by omega
      have ih := few_loop rec n x0 k o s1 s2 vk vn vt gs p hE hlen hrec m (i + 1) (by omega) (by omega)
      rw [he] at hr
      simp only [c1, c2, decide_true, needB_true, Int.toNat_natCast, nthP_lt hi, he, hasT35, cellsA, List.headD_cons, List.tail_cons, toI_int, toS_str, toL_sl, hr, callB_some, ok4, fvF, pvF, toB_bool, w, ih, ifB_eq, if_true, hd, List.all_cons]
      cases p (pE k' o' s1' s2' vk' vn' vt' gs') <;> simp
    · have c1 : ¬ ((i : Int) < (gs.length : Int)) := by omega
      have hd : gs.drop i = [] := List.drop_eq_nil_of_le (by omega)
      simp only [c1, decide_false, ifB_eq, hd]
      simp
theorem s14 : ∀ (d n : Nat) (e : PV), IsE e → d ≤ 1000 → pcall C (n + d + 6) 9 [vP e, vI (d : Int)] = some ([vB (fewN d e)], [])
  | 0, n, e, he, hd => by
    obtain ⟨k, o, s1, s2, vk, vn, vt, gs, rfl, hn, ha⟩ := he.inv
    rw [pcall_step (by rfl), f9_vestrylaw15_few_eq]
    unfold f9_vestrylaw15_few f9_vestrylaw15_few.pre
    simp [fewN]
  | d + 1, n, e, he, hd => by
    obtain ⟨k, o, s1, s2, vk, vn, vt, gs, rfl, hn, ha⟩ := he.inv
    rw [pcall_step (by rfl), f9_vestrylaw15_few_eq]
    unfold f9_vestrylaw15_few f9_vestrylaw15_few.pre
    have c0 : ¬ (((d + 1 : Nat) : Int) = 0) := by omega
    have w : IntKind.wrap .i64 (((d + 1 : Nat) : Int) - 1) = (d : Int) := by rw [IntKind.wrap_i64]; omega
    by_cases hl : gs.length ≤ 3
    · have c1 : ¬ (((gs.length : Nat) : Int) > 3) := by omega
      have ih : ∀ x ∈ gs, pcall C (n + (d + 1) + 5) 9 [vP x, vI (IntKind.wrap .i64 (((d + 1 : Nat) : Int) - 1))] = some ([vB (fewN d x)], []) := fun x hx => by
        rw [w]
        have := s14 d n x (ha x hx) (by omega)
        exact this
      have := few_loop (pcall C (n + (d + 1) + 5)) (n + (d + 1) + 5) ((d + 1 : Nat) : Int) k o s1 s2 vk vn vt gs (fewN d) ha hl ih (n + (d + 1) + 5) 0 (by omega) (by omega)
      simp only [Int.natCast_zero, show ((0 : Nat) : Int) = 0 from rfl] at this
      simp only [beq_iff_eq, c0, c1, decide_false, ifB_eq, if_false, this, fewN, argsOf_pE, hl, decide_true, List.drop_zero]
      simp
    · have c1 : (((gs.length : Nat) : Int) > 3) := by omega
      simp only [beq_iff_eq, c0, c1, decide_true, ifB_eq, if_false, fewN, argsOf_pE, hl, decide_false]
      simp
end Go.Proofs.YtoaclbilkoeghaaDoor.X13

open Go Go.Ev

set_option linter.unusedSimpArgs false

set_option linter.unusedVariables false

set_option maxHeartbeats 2000000

namespace Go.Proofs.YtoaclbilkoeghaaDoor.X13

def evalN : Nat → PV → List PV → Rs
  | 0, _, _ => ⟨nullV, 0⟩
  | d + 1, e, row =>
    if eK e = 1 then knownN (eV e)
    else if eK e = 2 then (if (eV e).k = 1 ∧ 0 ≤ (eV e).n ∧ (eV e).n < (row.length : Int) then knownN (valOf (nthP row (eV e).n.toNat)) else ⟨nullV, 12⟩)
    else if eK e = 3 then (match argsOf e with
      | [x, y] => if (evalN d x row).e ≠ 0 then ⟨nullV, (evalN d x row).e⟩ else if (evalN d y row).e ≠ 0 then ⟨nullV, (evalN d y row).e⟩ else opN (eO e) (evalN d x row).v (evalN d y row).v
      | _ => ⟨nullV, 4⟩)
    else if eK e = 4 ∨ eK e = 5 ∨ eK e = 6 then (match argsOf e with
      | [x] => if (evalN d x row).e ≠ 0 then ⟨nullV, (evalN d x row).e⟩ else oneN (eK e) (evalN d x row).v
      | _ => ⟨nullV, 4⟩)
    else ⟨nullV, 4⟩

theorem evalN_pE (d : Nat) (k o : Int) (s1 s2 : List UInt8) (vk vn : Int) (vt : List UInt8) (gs : List PV) (row : List PV) : evalN (d + 1) (pE k o s1 s2 vk vn vt gs) row =
    if k = 1 then knownN ⟨vk, vn, vt⟩
    else if k = 2 then (if vk = 1 ∧ 0 ≤ vn ∧ vn < (row.length : Int) then knownN (valOf (nthP row vn.toNat)) else ⟨nullV, 12⟩)
    else if k = 3 then (match gs with
      | [x, y] => if (evalN d x row).e ≠ 0 then ⟨nullV, (evalN d x row).e⟩ else if (evalN d y row).e ≠ 0 then ⟨nullV, (evalN d y row).e⟩ else opN o (evalN d x row).v (evalN d y row).v
      | _ => ⟨nullV, 4⟩)
    else if k = 4 ∨ k = 5 ∨ k = 6 then (match gs with
      | [x] => if (evalN d x row).e ≠ 0 then ⟨nullV, (evalN d x row).e⟩ else oneN k (evalN d x row).v
      | _ => ⟨nullV, 4⟩)
    else ⟨nullV, 4⟩ := rfl
theorem null_in : inI 0 := by decide
theorem known_in (v : Vl) (h : inI v.n) : inI (knownN v).v.n := by
  unfold knownN; split
  · decide
  · exact h
theorem fit_in (n : Int) : inI (fitN n).1 := by
  unfold fitN
  split
  · assumption
  · decide
theorem num_in {r : Int × Int} (h : inI r.1) : inI (numR r).v.n := by
  unfold numR
  split
  · exact h
  · exact null_in
theorem bit_in (b : Bool) : inI (bitN b) := by cases b <;> decide
theorem sums_in (o a b : Int) (hb : inI b) : inI (sumsN o a b).1 := by
  unfold sumsN
  split
  · exact fit_in _
  split
  · exact fit_in _
  split
  · exact fit_in _
  split
  · decide
  split
  · exact fit_in _
  · rename_i h0 h1
    have h2 := Int.tmod_lt_of_pos a (b := (b.natAbs : Int)) (by omega)
    have h3 : Int.tmod a (b.natAbs : Int) = Int.tmod a b := by
      rcases Int.natAbs_eq b with h | h
      · rw [← h]
      · conv => rhs; rw [h]
        rw [Int.tmod_neg]
    have h4 : -(b.natAbs : Int) < Int.tmod a b := by
      have h5 := Int.tmod_lt_of_pos (-a) (b := (b.natAbs : Int)) (by omega)
      rw [Int.neg_tmod, h3] at h5
      omega
    rw [h3] at h2
    show inI (Int.tmod a b)
    unfold inI at hb ⊢
    omega
theorem op_in (o : Int) (a b : Vl) (hb : inI b.n) : inI (opN o a b).v.n := by
  unfold opN
  split
  · decide
  split
  · unfold bothN
    repeat' split
    all_goals decide
  split
  · decide
  split
  · split
    · decide
    · unfold testN
      dsimp only
      repeat' split
      all_goals exact bit_in _
  split
  · decide
  · exact num_in (sums_in _ _ _ hb)
theorem one_in (k : Int) (v : Vl) (h : inI v.n) : inI (oneN k v).v.n := by
  unfold oneN
  split
  · exact bit_in _
  split
  · exact h
  split
  · decide
  split
  · exact bit_in _
  · exact num_in (fit_in _)
theorem eval_in (row : List PV) (hr : ∀ x ∈ row, IsV x) : ∀ (d : Nat) (e : PV), IsE e → inI (evalN d e row).v.n
  | 0, e, he => null_in
  | d + 1, e, he => by
    obtain ⟨k, o, s1, s2, vk, vn, vt, gs, rfl, hn, ha⟩ := he.inv
    rw [evalN_pE]
    by_cases c1 : k = 1
    · rw [if_pos c1]
      exact known_in _ hn
    by_cases c2 : k = 2
    · rw [if_neg c1, if_pos c2]
      by_cases h : vk = 1 ∧ 0 ≤ vn ∧ vn < (row.length : Int)
      · rw [if_pos h]
        apply known_in
        have hlt : vn.toNat < row.length := by omega
        obtain ⟨k', n', t', hx, hi⟩ := hr _ (List.getElem_mem hlt)
        rw [nthP_lt hlt, hx]
        exact hi
      · rw [if_neg h]
        exact null_in
    by_cases c3 : k = 3
    · rw [if_neg c1, if_neg c2, if_pos c3]
      match gs, ha with
      | [], _ => exact null_in
      | [x], _ => exact null_in
      | [x, y], ha =>
        dsimp only
        split
        · exact null_in
        split
        · exact null_in
        · exact op_in _ _ _ (eval_in row hr d y (ha y (by simp)))
      | x :: y :: z :: r, _ => exact null_in
    by_cases c4 : k = 4 ∨ k = 5 ∨ k = 6
    · rw [if_neg c1, if_neg c2, if_neg c3, if_pos c4]
      match gs, ha with
      | [], _ => exact null_in
      | [x], ha =>
        dsimp only
        split
        · exact null_in
        · exact one_in _ _ (eval_in row hr d x (ha x (by simp)))
      | x :: y :: r, _ => exact null_in
    · rw [if_neg c1, if_neg c2, if_neg c3, if_neg c4]
      exact null_in
end Go.Proofs.YtoaclbilkoeghaaDoor.X13

open Go Go.Ev

set_option linter.unusedSimpArgs false

set_option linter.unusedVariables false

set_option maxHeartbeats 2000000

namespace Go.Proofs.YtoaclbilkoeghaaDoor.X13

theorem newA0 (a b c o : PV) : newAt ((0 : Int).toNat * 3) 0 [a, b, c] o = a := rfl
theorem newA1 (a b c o : PV) : newAt ((0 : Int).toNat * 3) 1 [a, b, c] o = b := rfl
theorem newA2 (a b c o : PV) : newAt ((0 : Int).toNat * 3) 2 [a, b, c] o = c := rfl
theorem newA3 (a b c o : PV) : newAt ((0 : Int).toNat * 3) 3 [a, b, c] o = o := rfl
theorem newA4 (a b c o : PV) : newAt ((0 : Int).toNat * 3) 4 [a, b, c] o = o := rfl
theorem newA5 (a b c o : PV) : newAt ((0 : Int).toNat * 3) 5 [a, b, c] o = o := rfl
theorem newB0 (a b c o : PV) : newAt ((1 : Int).toNat * 3) 0 [a, b, c] o = o := rfl
theorem newB1 (a b c o : PV) : newAt ((1 : Int).toNat * 3) 1 [a, b, c] o = o := rfl
theorem newB2 (a b c o : PV) : newAt ((1 : Int).toNat * 3) 2 [a, b, c] o = o := rfl
theorem newB3 (a b c o : PV) : newAt ((1 : Int).toNat * 3) 3 [a, b, c] o = a := rfl
theorem newB4 (a b c o : PV) : newAt ((1 : Int).toNat * 3) 4 [a, b, c] o = b := rfl
theorem newB5 (a b c o : PV) : newAt ((1 : Int).toNat * 3) 5 [a, b, c] o = c := rfl
theorem likeI (a b : Int) : hasLike (.int .i64 a) (.int .i64 b) = true := rfl
theorem likeS (a b : List UInt8) : hasLike (.str a) (.str b) = true := rfl
theorem w01 : IntKind.wrap .i64 ((0 : Int) + 1) = 1 := by decide
theorem w12 : IntKind.wrap .i64 ((1 : Int) + 1) = 2 := by decide
theorem nth0 (x : PV) (r : List PV) : nthP (x :: r) ((0 : Int).toNat) = x := rfl
theorem nth1 (x y : PV) (r : List PV) : nthP (x :: y :: r) ((1 : Int).toNat) = y := rfl
theorem nth0' (x : PV) (r : List PV) : nthP (x :: r) 0 = x := rfl
theorem nth1' (x y : PV) (r : List PV) : nthP (x :: y :: r) 1 = y := rfl
theorem ble0 : Nat.ble ((0 : Int).toNat * 3 + 3) 6 = true := rfl
theorem ble1 : Nat.ble ((1 : Int).toNat * 3 + 3) 6 = true := rfl

theorem ev_succ (rec : Rec) (n m : Nat) (x0 : List PV) (x1 x2 : Int) (x3 x4 : List UInt8) (x5 x6 : Int) (x7 : List UInt8) (x8 : List PV) (x9 x10 : Int) (x11 : List UInt8) (x12 x13 x14 : Int) (x15 : List UInt8) (x16 x17 : Int) (x18 : List UInt8) (x19 : List PV) (x20 x21 : Int) :
    f41_eval_Eval.l0 rec n (m + 1) x0 x1 x2 x3 x4 x5 x6 x7 x8 x9 x10 x11 x12 x13 x14 x15 x16 x17 x18 x19 x20 x21 = f41_eval_Eval.l0.step rec n (f41_eval_Eval.l0 rec n m) x0 x1 x2 x3 x4 x5 x6 x7 x8 x9 x10 x11 x12 x13 x14 x15 x16 x17 x18 x19 x20 x21 := rfl
/-- What an expression of two parts, or of one, comes to. -/
def twoR (o : Int) (rx ry : Rs) : Rs := if rx.e ≠ 0 then ⟨nullV, rx.e⟩ else if ry.e ≠ 0 then ⟨nullV, ry.e⟩ else opN o rx.v ry.v
def oneR (k : Int) (rx : Rs) : Rs := if rx.e ≠ 0 then ⟨nullV, rx.e⟩ else oneN k rx.v
def rsO (r : Rs) : Option (List OV × List OV) := some ([vV r.v.k r.v.n r.v.t, vI r.e], [])
theorem len2 (x y : PV) : ((([x, y] : List PV).length : Nat) : Int) = 2 := rfl
theorem lb02 (x y : PV) : Nat.blt 0 ([x, y] : List PV).length = true := rfl
theorem lb12 (x y : PV) : Nat.blt 1 ([x, y] : List PV).length = true := rfl
theorem lb01 (x : PV) : Nat.blt 0 ([x] : List PV).length = true := rfl
theorem len1 (x : PV) : ((([x] : List PV).length : Nat) : Int) = 1 := rfl

theorem ev_two (n N m : Nat) (row : List PV) (k o : Int) (s1 s2 : List UInt8) (vk vn : Int) (vt : List UInt8) (k1 o1 : Int) (p1 q1 : List UInt8) (k1' n1 : Int) (t1 : List UInt8) (g1 : List PV) (k2 o2 : Int) (p2 q2 : List UInt8) (k2' n2 : Int) (t2 : List UInt8) (g2 : List PV) (rx ry : Rs)
    (ix : inI rx.v.n) (iy : inI ry.v.n)
    (ex : pcall C (n + 9) 41 [vP (pE k1 o1 p1 q1 k1' n1 t1 g1), .flat (.val (.sl (some 3) row))] = rsO rx)
    (ey : pcall C (n + 9) 41 [vP (pE k2 o2 p2 q2 k2' n2 t2 g2), .flat (.val (.sl (some 3) row))] = rsO ry) :
    f41_eval_Eval.l0 (pcall C (n + 9)) N (m + 3) row k o s1 s2 vk vn vt [pE k1 o1 p1 q1 k1' n1 t1 g1, pE k2 o2 p2 q2 k2' n2 t2 g2] (0 : Int) (0 : Int) ([] : List UInt8) (2 : Int) (0 : Int) (0 : Int) ([] : List UInt8) (0 : Int) (0 : Int) ([] : List UInt8) [pE k1 o1 p1 q1 k1' n1 t1 g1, pE k2 o2 p2 q2 k2' n2 t2 g2] (2 : Int) (0 : Int) = rsO (twoR o rx ry) := by
  unfold rsO at ex ey
  rw [ev_succ]
  unfold f41_eval_Eval.l0.step
  simp only [show decide ((0 : Int) < 2) = true from rfl, show decide ((0 : Int) ≤ 0) = true from rfl, len2, needB_true, nth0, hasT35, cellsA, List.headD_cons, List.tail_cons, toI_int, toS_str, toL_sl, ex, callB_some, ok2325, fvF, pvF, ble0, newA0, newA1, newA2, newA3, newA4, newA5, likeI, likeS, Bool.and_true, Bool.true_and, w01, ifB_eq, if_true]
  by_cases hx0 : rx.e = 0
  · simp only [hx0, bne_self_eq_false, Bool.false_eq_true, if_false, ne_eq, not_true_eq_false]
    rw [ev_succ]
    unfold f41_eval_Eval.l0.step
    simp only [show decide ((1 : Int) < 2) = true from rfl, show decide ((0 : Int) ≤ 1) = true from rfl, len2, needB_true, nth1, hasT35, cellsA, List.headD_cons, List.tail_cons, toI_int, toS_str, toL_sl, ey, callB_some, ok2325, fvF, pvF, ble1, newB0, newB1, newB2, newB3, newB4, newB5, likeI, likeS, Bool.and_true, Bool.true_and, w12, ifB_eq, if_true]
    by_cases hy0 : ry.e = 0
    · simp only [hy0, bne_self_eq_false, Bool.false_eq_true, if_false, ne_eq, not_true_eq_false]
      rw [ev_succ]
      unfold f41_eval_Eval.l0.step
      have e2 : twoR o rx ry = opN o rx.v ry.v := by simp [twoR, hx0, hy0]
      rw [e2]
      simp only [show decide ((2 : Int) < 2) = false from rfl, show ((2 : Int) == 2) = true from rfl, ifB_eq, Bool.false_eq_true, if_false, if_true, s9 _ _ _ _ _ _ _ _ ix iy, callB_some, ok2325, needB_true, List.headD_cons, List.tail_cons, fvF, pvF, toI_int, toS_str, cellsA, Vl.eta, rsO]
    · simp only [bne_iff_ne, ne_eq, hy0, not_false_eq_true, if_true, rsO, twoR, hx0, not_true_eq_false, if_false, nullV]
  · simp only [bne_iff_ne, ne_eq, hx0, not_false_eq_true, if_true, rsO, twoR, nullV]
theorem ev_one (n N m : Nat) (row : List PV) (k o : Int) (s1 s2 : List UInt8) (vk vn : Int) (vt : List UInt8) (k1 o1 : Int) (p1 q1 : List UInt8) (k1' n1 : Int) (t1 : List UInt8) (g1 : List PV) (rx : Rs)
    (ix : inI rx.v.n)
    (ex : pcall C (n + 9) 41 [vP (pE k1 o1 p1 q1 k1' n1 t1 g1), .flat (.val (.sl (some 3) row))] = rsO rx) :
    f41_eval_Eval.l0 (pcall C (n + 9)) N (m + 2) row k o s1 s2 vk vn vt [pE k1 o1 p1 q1 k1' n1 t1 g1] (0 : Int) (0 : Int) ([] : List UInt8) (1 : Int) (0 : Int) (0 : Int) ([] : List UInt8) (0 : Int) (0 : Int) ([] : List UInt8) [pE k1 o1 p1 q1 k1' n1 t1 g1] (1 : Int) (0 : Int) = rsO (oneR k rx) := by
  unfold rsO at ex
  rw [ev_succ]
  unfold f41_eval_Eval.l0.step
  simp only [show decide ((0 : Int) < 1) = true from rfl, show decide ((0 : Int) < 2) = true from rfl, show decide ((0 : Int) ≤ 0) = true from rfl, len1, needB_true, nth0, hasT35, cellsA, List.headD_cons, List.tail_cons, toI_int, toS_str, toL_sl, ex, callB_some, ok2325, fvF, pvF, ble0, newA0, newA1, newA2, newA3, newA4, newA5, likeI, likeS, Bool.and_true, Bool.true_and, w01, ifB_eq, if_true]
  by_cases hx0 : rx.e = 0
  · simp only [hx0, bne_self_eq_false, Bool.false_eq_true, if_false, ne_eq, not_true_eq_false]
    rw [ev_succ]
    unfold f41_eval_Eval.l0.step
    have e2 : oneR k rx = oneN k rx.v := by simp [oneR, hx0]
    rw [e2]
    simp only [show decide ((1 : Int) < 1) = false from rfl, show ((1 : Int) == 2) = false from rfl, ifB_eq, Bool.false_eq_true, if_false, if_true, s34 _ _ _ _ _ ix, callB_some, ok2325, needB_true, List.headD_cons, List.tail_cons, fvF, pvF, toI_int, toS_str, cellsA, Vl.eta, rsO]
  · simp only [bne_iff_ne, ne_eq, hx0, not_false_eq_true, if_true, rsO, oneR, nullV]
end Go.Proofs.YtoaclbilkoeghaaDoor.X13

open Go Go.Ev

set_option linter.unusedSimpArgs false

set_option linter.unusedVariables false

set_option maxHeartbeats 2000000

namespace Go.Proofs.YtoaclbilkoeghaaDoor.X13

theorem few_args {d : Nat} {k o : Int} {s1 s2 : List UInt8} {vk vn : Int} {vt : List UInt8} {gs : List PV} (hf : fewN (d + 1) (pE k o s1 s2 vk vn vt gs) = true) : ∀ x ∈ gs, fewN d x = true := by
  simp only [fewN, argsOf_pE, Bool.and_eq_true, List.all_eq_true] at hf
  exact hf.2
theorem evalN_3 (d : Nat) (o : Int) (s1 s2 : List UInt8) (vk vn : Int) (vt : List UInt8) (x y : PV) (row : List PV) : evalN (d + 1) (pE 3 o s1 s2 vk vn vt [x, y]) row = twoR o (evalN d x row) (evalN d y row) := by
  rw [evalN_pE]; rfl
theorem evalN_1 (d : Nat) (k o : Int) (s1 s2 : List UInt8) (vk vn : Int) (vt : List UInt8) (x : PV) (row : List PV) (h : k = 4 ∨ k = 5 ∨ k = 6) : evalN (d + 1) (pE k o s1 s2 vk vn vt [x]) row = oneR k (evalN d x row) := by
  rw [evalN_pE, if_neg (by omega), if_neg (by omega), if_neg (by omega), if_pos h]; rfl
theorem evalN_bad3 (d : Nat) (o : Int) (s1 s2 : List UInt8) (vk vn : Int) (vt : List UInt8) (gs : List PV) (row : List PV) (h : gs.length ≠ 2) : evalN (d + 1) (pE 3 o s1 s2 vk vn vt gs) row = ⟨nullV, 4⟩ := by
  rw [evalN_pE]
  match gs, h with
  | [], _ => rfl
  | [_], _ => rfl
  | [_, _], h => exact absurd rfl h
  | _ :: _ :: _ :: _, _ => rfl
theorem evalN_bad1 (d : Nat) (k o : Int) (s1 s2 : List UInt8) (vk vn : Int) (vt : List UInt8) (gs : List PV) (row : List PV) (hk : k = 4 ∨ k = 5 ∨ k = 6) (h : gs.length ≠ 1) : evalN (d + 1) (pE k o s1 s2 vk vn vt gs) row = ⟨nullV, 4⟩ := by
  rw [evalN_pE, if_neg (by omega), if_neg (by omega), if_neg (by omega), if_pos hk]
  match gs, h with
  | [], _ => rfl
  | [_], h => exact absurd rfl h
  | _ :: _ :: _, _ => rfl

theorem s15 (row : List PV) (hrow : ∀ x ∈ row, IsV x) : ∀ (d n : Nat) (e : PV), IsE e → fewN d e = true → pcall C (n + d + 10) 41 [vP e, .flat (.val (.sl (some 3) row))] = rsO (evalN d e row)
  | 0, n, e, he, hf => by cases hf
  | d + 1, n, e, he, hf => by
    obtain ⟨k, o, s1, s2, vk, vn, vt, gs, rfl, hn, ha⟩ := he.inv
    rw [pcall_step (by rfl), f41_eval_Eval_eq]
    unfold f41_eval_Eval f41_eval_Eval.pre
    have hfa := few_args hf
    have ih : ∀ x ∈ gs, pcall C (n + d + 1 + 9) 41 [vP x, .flat (.val (.sl (some 3) row))] = rsO (evalN d x row) := fun x hx => s15 row hrow d n x (ha x hx) (hfa x hx)
    have ii : ∀ x ∈ gs, inI (evalN d x row).v.n := fun x hx => eval_in row hrow d x (ha x hx)
    show ifB _ _ _ = _
    by_cases c1 : k = 1
    · subst c1
      rw [evalN_pE, if_pos rfl]
      simp only [beq_self_eq_true, ifB_eq, if_true, s33, callB_some, ok2325, needB_true, List.headD_cons, List.tail_cons, fvF, pvF, toI_int, toS_str, cellsA, rsO]
    by_cases c2 : k = 2
    · subst c2
      rw [evalN_pE, if_neg c1, if_pos rfl]
      by_cases h1 : vk = 1
      · by_cases h2 : 0 ≤ vn
        · by_cases h3 : vn < (row.length : Int)
          · have hlt : vn.toNat < row.length := by omega
            obtain ⟨k', n', t', hx, hi⟩ := hrow _ (List.getElem_mem hlt)
            have hg : vn ≥ 0 := h2
            rw [if_pos ⟨h1, h2, h3⟩]
            have hv : valOf (pV k' n' t') = ⟨k', n', t'⟩ := rfl
            simp only [show ((2 : Int) == 1) = false from rfl, show ((2 : Int) == 2) = true from rfl, Bool.false_eq_true, if_false, nthP_lt hlt, hx, h1, h2, h3, hg, hasT23, decide_true, beq_self_eq_true, ifB_eq, if_true, s33, callB_some, ok2325, needB_true, List.headD_cons, List.tail_cons, fvF, pvF, toI_int, toS_str, cellsA, rsO, hv]
          · have hg : vn ≥ 0 := h2
            rw [if_neg (by omega)]
            simp [h1, h2, h3, hg, nullV, rsO]
        · have hg : ¬ vn ≥ 0 := h2
          rw [if_neg (by omega)]
          simp [h1, h2, hg, nullV, rsO]
      · rw [if_neg (by omega)]
        simp [h1, nullV, rsO]
    have b1 : (k == 1) = false := by simpa using c1
    have b2 : (k == 2) = false := by simpa using c2
    rw [b1, b2]
    by_cases c3 : k = 3
    · subst c3
      by_cases hl : gs.length = 2
      · match gs, hl, ha, ih, ii with
        | [x, y], _, ha, ih, ii =>
          have ex := ih x (by simp)
          have ey := ih y (by simp)
          have ix := ii x (by simp)
          have iy := ii y (by simp)
          obtain ⟨k1, o1, p1, q1, k1', n1, t1, g1, hx, _, _⟩ := (ha x (by simp)).inv
          obtain ⟨k2, o2, p2, q2, k2', n2, t2, g2, hy, _, _⟩ := (ha y (by simp)).inv
          subst hx hy
          have := ev_two (n + d + 1) (n + d + 10) (n + d + 7) row 3 o s1 s2 vk vn vt k1 o1 p1 q1 k1' n1 t1 g1 k2 o2 p2 q2 k2' n2 t2 g2 _ _ ix iy ex ey
          rw [evalN_3]
          simp only [ifB_eq, Bool.false_eq_true, if_false, beq_self_eq_true, if_true, len2, show ((2 : Int) != 2) = false from rfl]
          exact this
      · have : ¬ (((gs.length : Nat) : Int) = 2) := by omega
        rw [evalN_bad3 _ _ _ _ _ _ _ _ _ hl]
        simp only [ifB_eq, Bool.false_eq_true, if_false, beq_self_eq_true, if_true, bne_iff_ne, ne_eq, this, not_false_eq_true, rsO, nullV]
    have b3 : (k == 3) = false := by simpa using c3
    rw [b3]
    by_cases c4 : k = 4 ∨ k = 5 ∨ k = 6
    · have key : ifB (((gs.length : Nat) : Int) != (1 : Int)) (some ([vV 0 0 [], vI 4], [])) (f41_eval_Eval.l0 (pcall C (n + (d + 1) + 9)) (n + (d + 1) + 9) (n + (d + 1) + 9) row k o s1 s2 vk vn vt gs (0 : Int) (0 : Int) ([] : List UInt8) (1 : Int) (0 : Int) (0 : Int) ([] : List UInt8) (0 : Int) (0 : Int) ([] : List UInt8) gs ((gs.length : Nat) : Int) (0 : Int)) = rsO (evalN (d + 1) (pE k o s1 s2 vk vn vt gs) row) := by
        by_cases hl : gs.length = 1
        · match gs, hl, ha, ih, ii with
          | [x], _, ha, ih, ii =>
            have ex := ih x (by simp)
            have ix := ii x (by simp)
            obtain ⟨k1, o1, p1, q1, k1', n1, t1, g1, hx, _, _⟩ := (ha x (by simp)).inv
            subst hx
            have := ev_one (n + d + 1) (n + d + 10) (n + d + 8) row k o s1 s2 vk vn vt k1 o1 p1 q1 k1' n1 t1 g1 _ ix ex
            rw [evalN_1 _ _ _ _ _ _ _ _ _ _ c4]
            simp only [ifB_eq, Bool.false_eq_true, if_false, len1, show ((1 : Int) != 1) = false from rfl]
            exact this
        · have : ¬ (((gs.length : Nat) : Int) = 1) := by omega
          rw [evalN_bad1 _ _ _ _ _ _ _ _ _ _ c4 hl]
          simp only [ifB_eq, bne_iff_ne, ne_eq, this, not_false_eq_true, if_true, rsO, nullV]
      rcases c4 with rfl | rfl | rfl
      · rw [show ((4 : Int) == 4) = true from rfl]
        exact key
      · rw [show ((5 : Int) == 4) = false from rfl, show ((5 : Int) == 5) = true from rfl]
        exact key
      · rw [show ((6 : Int) == 4) = false from rfl, show ((6 : Int) == 5) = false from rfl, show ((6 : Int) == 6) = true from rfl]
        exact key
    · rw [evalN_pE, if_neg c1, if_neg c2, if_neg c3, if_neg c4]
      have d4 : (k == 4) = false := by simp; omega
      have d5 : (k == 5) = false := by simp; omega
      have d6 : (k == 6) = false := by simp; omega
      rw [d4, d5, d6]
      rfl
end Go.Proofs.YtoaclbilkoeghaaDoor.X13

open Go Go.Ev

set_option linter.unusedSimpArgs false

set_option linter.unusedVariables false

set_option maxHeartbeats 4000000

namespace Go.Proofs.YtoaclbilkoeghaaDoor.X13

def trueN (r : Rs) : Bool × Int := if r.e = 0 ∧ r.v.k = 2 then (false, 9) else (r.e == 0 && holdsN r.v, r.e)
theorem s18 (row : List PV) (hrow : ∀ x ∈ row, IsV x) (d n : Nat) (e : PV) (he : IsE e) (hf : fewN d e = true) : pcall C (n + d + 11) 25 [vP e, .flat (.val (.sl (some 3) row))] = some ([vB (trueN (evalN d e row)).1, vI (trueN (evalN d e row)).2], []) := by
  have h := s15 row hrow d n e he hf
  obtain ⟨k, o, s1, s2, vk, vn, vt, gs, rfl, hn, ha⟩ := he.inv
  rw [pcall_step (by rfl), f25_eval_True_eq]
  unfold f25_eval_True
  generalize evalN d (pE k o s1 s2 vk vn vt gs) row = r at h ⊢
  unfold rsO at h
  simp only [h, callB_some, ok2325, needB_true, List.headD_cons, List.tail_cons, fvF, pvF, toI_int, toS_str, cellsA, ifB_eq, s36, ok4, toB_bool, Vl.eta, trueN]
  by_cases c1 : r.e = 0
  · by_cases c2 : r.v.k = 2 <;> simp [c1, c2]
  · simp [c1]
theorem opn_null (o : Int) (v : Vl) (hv : rightN v = 0) (ho : 3 ≤ o ∧ o ≤ 13) : opN o ⟨0, 0, []⟩ v = ⟨⟨0, 0, []⟩, 0⟩ ∧ opN o v ⟨0, 0, []⟩ = ⟨⟨0, 0, []⟩, 0⟩ := by
  have r0 : rightN ⟨0, 0, []⟩ = 0 := by decide
  unfold opN
  rw [if_neg (by simp [hv, r0]; omega), if_neg (by omega), if_pos (.inl rfl), if_neg (by simp [hv, r0]; omega), if_neg (by omega), if_pos (.inr rfl)]
  exact ⟨rfl, rfl⟩
end Go.Proofs.YtoaclbilkoeghaaDoor.X13

