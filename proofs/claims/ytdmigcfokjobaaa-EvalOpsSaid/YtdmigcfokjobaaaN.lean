/- What the functions answer, and the laws. -/
import Derived.Test.YtdmigcfokjobaaaSh
import Derived.Lib.Mul64
import Derived.Shelf.Bits.Mul64
import Derived.Lib.Bytealg

open Go Go.Ev

set_option linter.unusedSimpArgs false

set_option linter.unusedVariables false

namespace Go.Proofs.Ytdmigcfokjobaaa

abbrev vI (n : Int) : OV := .flat (.val (.int .i64 n))
abbrev vU (n : Int) : OV := .flat (.val (.int .u64 n))
abbrev vB (b : Bool) : OV := .flat (.val (.bool b))
abbrev vV (k n : Int) (t : List UInt8) : OV := .flat (.val (.agg [.int .i64 k, .int .i64 n, .str t]))

/-- A value, and what comes back with one. -/
structure Vl where
  k : Int
  n : Int
  t : List UInt8
  deriving DecidableEq
structure Rs where
  v : Vl
  e : Int
  deriving DecidableEq
theorem Vl.eta (x : Vl) : Vl.mk x.k x.n x.t = x := rfl
theorem Rs.eta (x : Rs) : Rs.mk x.v x.e = x := rfl
def nullV : Vl := ⟨0, 0, []⟩
def numV (n : Int) : Vl := ⟨1, n, []⟩
def bitN : Bool → Int
  | true => 1
  | false => 0
@[simp] theorem bitN_true : bitN true = 1 := rfl
@[simp] theorem bitN_false : bitN false = 0 := rfl
def yesV (b : Bool) : Vl := ⟨1, bitN b, []⟩
def sameV (a b : Vl) : Bool := (a.k == b.k) && ((a.n == b.n) && ((a.t == b.t) && true))
theorem sameV_iff (a b : Vl) : sameV a b = true ↔ a = b := by
  cases a; cases b; simp [sameV]
theorem sameV_refl (a : Vl) : sameV a a = true := by rw [sameV_iff]

theorem ok4 (b : Bool) : okOs Go.Proofs.Try.prog [4] [] [vB b] = true := by kernel_rfl
theorem ok3 (n : Int) : okOs Go.Proofs.Try.prog [3] [] [vI n] = true := by kernel_rfl
theorem ok25 (n : Int) : okOs Go.Proofs.Try.prog [25] [] [vI n] = true := by kernel_rfl
theorem ok65 (n : Int) : okOs Go.Proofs.Try.prog [65] [] [vU n] = true := by kernel_rfl
theorem ok6565 (n m : Int) : okOs Go.Proofs.Try.prog [65, 65] [] [vU n, vU m] = true := by kernel_rfl
theorem ok325 (n m : Int) : okOs Go.Proofs.Try.prog [3, 25] [] [vI n, vI m] = true := by kernel_rfl
theorem ok34 (n : Int) (b : Bool) : okOs Go.Proofs.Try.prog [3, 4] [] [vI n, vB b] = true := by kernel_rfl
theorem ok425 (b : Bool) (n : Int) : okOs Go.Proofs.Try.prog [4, 25] [] [vB b, vI n] = true := by kernel_rfl
theorem ok23 (k n : Int) (t : List UInt8) : okOs Go.Proofs.Try.prog [23] [] [vV k n t] = true := by kernel_rfl
theorem ok2325 (k n : Int) (t : List UInt8) (e : Int) : okOs Go.Proofs.Try.prog [23, 25] [] [vV k n t, vI e] = true := by kernel_rfl
theorem hasT3 (n : Int) : hasT Go.Proofs.Try.prog 3 (.int .i64 n) = true := by kernel_rfl
theorem hasT23 (k n : Int) (t : List UInt8) : hasT Go.Proofs.Try.prog 23 (.agg [.int .i64 k, .int .i64 n, .str t]) = true := by kernel_rfl


@[simp] theorem needB_true {α : Type} (x : Option α) : needB true x = x := rfl
@[simp] theorem ifB_eq {α : Type} (b : Bool) (x y : Option α) : ifB b x y = if b = true then x else y := by cases b <;> rfl
@[simp] theorem callB_some {α β : Type} (a : α) (k : α → Option β) : callB (some a) k = k a := rfl
theorem pcall_step {n : Nat} {f : FuncId} {args : List OV} (h : C.prim f = none) : pcall C (n + 1) f args = callBody C (pcall C n) n f args := by
  show (match C.prim f with
    | some p => p args
    | none => callBody C (pcall C n) n f args) = _
  rw [h]
@[simp] theorem fvF (f : FV) : OV.fv (.flat f) = f := rfl
@[simp] theorem pvF (v : PV) : FV.pv (.val v) = v := rfl
@[simp] theorem cellsA (l : List PV) : PV.cells (.agg l) = l := rfl
@[simp] theorem toI_int (k : IntKind) (n : Int) : PV.toI (.int k n) = n := rfl
@[simp] theorem toB_bool (b : Bool) : PV.toB (.bool b) = b := rfl
@[simp] theorem toS_str (b : List UInt8) : PV.toS (.str b) = b := rfl
@[simp] theorem toL_sl (sh : Option Nat) (b : List PV) : PV.toL (.sl sh b) = b := rfl
attribute [simp] ok4 ok3 ok25 ok65 ok6565 ok325 ok34 ok425 ok23 ok2325 hasT3 hasT23

def inI (n : Int) : Prop := -9223372036854775808 ≤ n ∧ n ≤ 9223372036854775807
instance (n : Int) : Decidable (inI n) := inferInstanceAs (Decidable (_ ∧ _))
theorem wrap_in {n : Int} (h : inI n) : IntKind.wrap .i64 n = n := by
  rw [IntKind.wrap_i64]; unfold inI at h; omega

def rightN (v : Vl) : Int := if v.k < 0 ∨ v.k > 2 then 4 else if v.k ≠ 1 ∧ v.n ≠ 0 then 4 else if v.k ≠ 2 ∧ v.t ≠ [] then 4 else if v.t.length > 40 then 2 else 0
def holdsN (v : Vl) : Bool := v.k == 1 && v.n != 0
def bothN (o : Int) (a b : Vl) : Rs :=
  if a.k = 2 ∨ b.k = 2 then ⟨nullV, 9⟩
  else if o = 1 then (if holdsN a || holdsN b then ⟨numV 1, 0⟩ else if a.k = 0 ∨ b.k = 0 then ⟨nullV, 0⟩ else ⟨numV 0, 0⟩)
  else (if (a.k == 1 && a.n == 0) || (b.k == 1 && b.n == 0) then ⟨numV 0, 0⟩ else if a.k = 0 ∨ b.k = 0 then ⟨nullV, 0⟩ else ⟨numV 1, 0⟩)
def cmpN (a b : Vl) : Int := if a.k < b.k then -1 else if b.k < a.k then 1 else if a.n < b.n then -1 else if b.n < a.n then 1 else Lib.compareBytes a.t b.t
def testN (o : Int) (a b : Vl) : Vl :=
  let c := cmpN a b
  if o = 3 then yesV (c == 0) else if o = 4 then yesV (c != 0) else if o = 5 then yesV (decide (c < 0)) else if o = 6 then yesV (decide (c ≤ 0)) else if o = 7 then yesV (decide (c > 0)) else yesV (decide (c ≥ 0))
def fitN (n : Int) : Int × Int := if inI n then (n, 0) else (0, 7)
def sumsN (o a b : Int) : Int × Int :=
  if o = 9 then fitN (a + b) else if o = 10 then fitN (a - b) else if o = 11 then fitN (a * b)
  else if b = 0 then (0, 8) else if o = 12 then fitN (Int.tdiv a b) else (Int.tmod a b, 0)
def numR (r : Int × Int) : Rs := if r.2 = 0 then ⟨numV r.1, 0⟩ else ⟨nullV, r.2⟩
def opN (o : Int) (a b : Vl) : Rs :=
  if o < 1 ∨ o > 13 ∨ rightN a ≠ 0 ∨ rightN b ≠ 0 then ⟨nullV, 4⟩
  else if o ≤ 2 then bothN o a b
  else if a.k = 0 ∨ b.k = 0 then ⟨nullV, 0⟩
  else if o ≤ 8 then (if a.k ≠ b.k then ⟨nullV, 9⟩ else ⟨testN o a b, 0⟩)
  else if a.k = 2 ∨ b.k = 2 then ⟨nullV, 9⟩
  else numR (sumsN o a.n b.n)
def oneN (k : Int) (v : Vl) : Rs :=
  if k = 6 then ⟨yesV (v.k == 0), 0⟩ else if v.k = 0 then ⟨v, 0⟩ else if v.k = 2 then ⟨nullV, 9⟩
  else if k = 4 then ⟨yesV (v.n == 0), 0⟩ else numR (fitN (-v.n))
def knownN (v : Vl) : Rs := if rightN v ≠ 0 then ⟨nullV, 4⟩ else ⟨v, 0⟩

/-! ### small ones -/
theorem s25 (n : Nat) (a e : Int) : pcall C (n + 1) 25 [vI a, vI e] = some ([vV (numR (a, e)).v.k (numR (a, e)).v.n (numR (a, e)).v.t, vI (numR (a, e)).e], []) := by
  rw [pcall_step (by rfl), f25_eval_num_eq]
  unfold f25_eval_num
  by_cases h : e = 0 <;> simp [h, numR, numV, nullV]
theorem s31 (n : Nat) (a : Int) : pcall C (n + 1) 31 [vI a] = some ([vV 1 a []], []) := by
  rw [pcall_step (by rfl), f31_vestryref13_Num_eq]
  rfl
theorem s42 (n : Nat) (b : Bool) : pcall C (n + 2) 42 [vB b] = some ([vV 1 (bitN b) [], vI 0], []) := by
  rw [pcall_step (by rfl), f42_eval_yes_eq]
  unfold f42_eval_yes
  cases b <;> simp [s25, numR, numV]
theorem s44 (n : Nat) (b : Bool) : pcall C (n + 2) 44 [vB b] = some ([vV 1 (bitN b) []], []) := by
  rw [pcall_step (by rfl), f44_vestryref13_yes_eq]
  unfold f44_vestryref13_yes
  cases b <;> simp [s31]
theorem s36 (n : Nat) (k m : Int) (t : List UInt8) : pcall C (n + 1) 36 [vV k m t] = some ([vB (holdsN ⟨k, m, t⟩)], []) := by
  rw [pcall_step (by rfl), f36_eval_holds_eq]
  unfold f36_eval_holds
  by_cases h : k = 1 <;> simp [h, holdsN]
theorem s39 (n : Nat) (k m : Int) (t : List UInt8) : pcall C (n + 1) 39 [vV k m t] = some ([vB (holdsN ⟨k, m, t⟩)], []) := by
  rw [pcall_step (by rfl), f39_vestryref13_holds_eq]
  unfold f39_vestryref13_holds
  by_cases h : k = 1 <;> simp [h, holdsN]
theorem s40 (n : Nat) (k m : Int) (t : List UInt8) : pcall C (n + 1) 40 [vV k m t] = some ([vB (k == 1 && m == 0)], []) := by
  rw [pcall_step (by rfl), f40_eval_fails_eq]
  unfold f40_eval_fails
  by_cases h : k = 1 <;> simp [h]
theorem s27 (n : Nat) (k m : Int) (t : List UInt8) : pcall C (n + 1) 27 [vV k m t] = some ([vI (rightN ⟨k, m, t⟩)], []) := by
  rw [pcall_step (by rfl), f27_vestryref07_Right_eq]
  unfold f27_vestryref07_Right
  by_cases h1 : k < 0 <;> by_cases h2 : k > 2 <;> by_cases h3 : k = 1 <;> by_cases h4 : k = 2 <;> by_cases h5 : m = 0 <;> by_cases h6 : t = [] <;> by_cases h7 : t.length > 40 <;> first | omega | (simp [h1, h2, h3, h4, h5, h6, h7, rightN]; done) | (simp [h1, h2, h3, h4, h5, h6, h7, rightN]; omega)
theorem s32 (n : Nat) (k m : Int) (t : List UInt8) : pcall C (n + 1) 32 [vV k m t] = some ([vV k (if k = 0 ∨ k = 2 then 0 else m) (if k = 0 ∨ k = 1 then [] else t)], []) := by
  rw [pcall_step (by rfl), f32_value_bare_eq]
  unfold f32_value_bare
  by_cases h0 : k = 0
  · simp [h0]
  by_cases h1 : k = 1
  · simp [h1]
  by_cases h2 : k = 2
  · simp [h2]
  simp [h0, h1, h2]
theorem s11 (n : Nat) (k m : Int) (t : List UInt8) : pcall C (n + 2) 11 [vV k m t] = some ([vI (rightN ⟨k, m, t⟩)], []) := by
  rw [pcall_step (by rfl), f11_value_Right_eq]
  unfold f11_value_Right
  by_cases h1 : k < 0
  · simp [h1, rightN]
  by_cases h2 : k > 2
  · simp [h1, h2, rightN]
  simp only [s32, rightN]
  have h : k = 0 ∨ k = 1 ∨ k = 2 := by omega
  rcases h with h | h | h <;> subst h <;> by_cases h5 : m = 0 <;> by_cases h6 : t = [] <;> by_cases h7 : t.length > 40 <;> simp [h5, h6, h7]
  all_goals omega
end Go.Proofs.Ytdmigcfokjobaaa

open Go Go.Ev

set_option linter.unusedSimpArgs false

set_option linter.unusedVariables false

namespace Go.Proofs.Ytdmigcfokjobaaa

/-! ### products -/
theorem mask32 (a : Nat) (ha : a < 18446744073709551616) : ((BitVec.toNat ((BitVec.ofInt (IntKind.bits .u64) (a : Int)) &&& (BitVec.ofInt (IntKind.bits .u64) (4294967295 : Int))) : Nat) : Int) = ((a % 4294967296 : Nat) : Int) := by
  have e : a &&& 4294967295 = a % 4294967296 := Nat.and_two_pow_sub_one_eq_mod a 32
  have h1 : (BitVec.ofInt (IntKind.bits .u64) (a : Int)).toNat = a := by
    show (BitVec.ofInt 64 (a : Int)).toNat = a
    rw [BitVec.toNat_ofInt]
    omega
  have h2 : (BitVec.ofInt (IntKind.bits .u64) (4294967295 : Int)).toNat = 4294967295 := by decide
  rw [BitVec.toNat_and, h1, h2, e]
theorem div32 (a : Nat) : Int.fdiv (a : Int) ((2 : Int) ^ (min 32 (IntKind.bits .u64))) = ((a / 4294967296 : Nat) : Int) := by
  have : ((2 : Int) ^ (min 32 (IntKind.bits .u64))) = 4294967296 := by decide
  rw [this, Int.fdiv_eq_ediv_of_nonneg _ (by omega)]
  omega
theorem s50 (n : Nat) (x y : Nat) (hx : x < 18446744073709551616) (hy : y < 18446744073709551616) : pcall C (n + 1) 50 [vU x, vU y] = some ([vU ((x * y / 18446744073709551616 : Nat) : Int), vU ((x * y % 18446744073709551616 : Nat) : Int)], []) := by
  obtain ⟨bd, bt, bw, hhi⟩ := Lib.mul64_hi x y hx hy
  have ba := Lib.half_mul_le (a := x / 4294967296) (b := y / 4294967296) (by omega) (by omega)
  have bb := Lib.half_mul_le (a := x / 4294967296) (b := y % 4294967296) (by omega) (by omega)
  have bc := Lib.half_mul_le (a := x % 4294967296) (b := y / 4294967296) (by omega) (by omega)
  have ba' : x / 4294967296 * (y / 4294967296) < 18446744073709551616 := by omega
  have bb' : x / 4294967296 * (y % 4294967296) < 18446744073709551616 := by omega
  have bc' : x % 4294967296 * (y / 4294967296) < 18446744073709551616 := by omega
  have bh1 : x / 4294967296 * (y / 4294967296) + (x / 4294967296 * (y % 4294967296) + x % 4294967296 * (y % 4294967296) / 4294967296) / 4294967296 < 18446744073709551616 := by omega
  have bh : x / 4294967296 * (y / 4294967296) + (x / 4294967296 * (y % 4294967296) + x % 4294967296 * (y % 4294967296) / 4294967296) / 4294967296 + ((x / 4294967296 * (y % 4294967296) + x % 4294967296 * (y % 4294967296) / 4294967296) % 4294967296 + x % 4294967296 * (y / 4294967296)) / 4294967296 < 18446744073709551616 := by
    rw [hhi]
    have := Nat.mul_lt_mul'' hx hy
    omega
  rw [pcall_step (by rfl), f50_bits_Mul64_eq]
  unfold f50_bits_Mul64
  have m1 : x % 4294967296 < 18446744073709551616 := by omega
  have m2 : y % 4294967296 < 18446744073709551616 := by omega
  have m3 : (x / 4294967296 * (y % 4294967296) + x % 4294967296 * (y % 4294967296) / 4294967296) % 4294967296 < 18446744073709551616 := by omega
  simp only [mask32 x hx, mask32 y hy, div32, Mul64.wrapN _ m3, Mul64.mulN, Mul64.addN, Mul64.wrapN _ m1, Mul64.wrapN _ m2, Mul64.wrapN _ bd, Mul64.wrapN _ bb', Mul64.wrapN _ bt, mask32 _ bt, Mul64.wrapN _ bc', Mul64.wrapN _ bw, Mul64.wrapN _ ba', Mul64.wrapN _ bh1, Mul64.wrapN _ bh, Mul64.wrapM (x * y)]
  rw [hhi]
theorem s51 (n : Nat) (a : Int) (h : inI a) : pcall C (n + 1) 51 [vI a] = some ([vU (a.natAbs : Int)], []) := by
  rw [pcall_step (by rfl), f51_eval_size_eq]
  unfold f51_eval_size
  unfold inI at h
  by_cases h1 : a < 0
  · simp only [h1, decide_true, ifB_eq, if_true, IntKind.wrap_u64]
    have : ((0 : Int) - a % 18446744073709551616) % 18446744073709551616 = (a.natAbs : Int) := by omega
    rw [this]
  · simp only [h1, decide_false, ifB_eq, IntKind.wrap_u64]
    have : a % 18446744073709551616 = (a.natAbs : Int) := by omega
    simp [this]
theorem mul_abs (a b : Int) : (a * b = ((a.natAbs * b.natAbs : Nat) : Int) ∧ ((decide (a < 0) == decide (b < 0)) = true ∨ a * b = 0)) ∨ (a * b = -((a.natAbs * b.natAbs : Nat) : Int) ∧ ((decide (a < 0) == decide (b < 0)) = false ∨ a * b = 0)) := by
  by_cases h1 : a < 0 <;> by_cases h2 : b < 0
  · refine .inl ⟨?_, .inl (by simp [h1, h2])⟩
    have e1 : a = -(a.natAbs : Int) := by omega
    have e2 : b = -(b.natAbs : Int) := by omega
    conv => lhs; rw [e1, e2]
    rw [Int.neg_mul_neg, Int.natCast_mul]
  · refine .inr ⟨?_, .inl (by simp [h1, h2])⟩
    have e1 : a = -(a.natAbs : Int) := by omega
    have e2 : b = (b.natAbs : Int) := by omega
    conv => lhs; rw [e1, e2]
    rw [Int.neg_mul, Int.natCast_mul]
  · refine .inr ⟨?_, .inl (by simp [h1, h2])⟩
    have e1 : a = (a.natAbs : Int) := by omega
    have e2 : b = -(b.natAbs : Int) := by omega
    conv => lhs; rw [e1, e2]
    rw [Int.mul_neg, Int.natCast_mul]
  · refine .inl ⟨?_, .inl (by simp [h1, h2])⟩
    have e1 : a = (a.natAbs : Int) := by omega
    have e2 : b = (b.natAbs : Int) := by omega
    conv => lhs; rw [e1, e2]
    rw [Int.natCast_mul]
theorem s43 (n : Nat) (a b : Int) (ha : inI a) (hb : inI b) : pcall C (n + 2) 43 [vI a, vI b] = some ([vI (fitN (a * b)).1, vI (fitN (a * b)).2], []) := by
  have la : a.natAbs < 18446744073709551616 := by unfold inI at ha; omega
  have lb : b.natAbs < 18446744073709551616 := by unfold inI at hb; omega
  rw [pcall_step (by rfl), f43_eval_times_eq]
  unfold f43_eval_times
  simp only [s51 _ _ ha, s51 _ _ hb, callB_some, ok65, needB_true, List.headD_cons, List.tail_cons, fvF, pvF, toI_int, s50 _ _ _ la lb, ok6565, ifB_eq]
  have key := mul_abs a b
  generalize hp : a.natAbs * b.natAbs = p at key ⊢
  generalize hm : a * b = m at key ⊢
  unfold fitN
  generalize (decide (a < 0) == decide (b < 0)) = s at key ⊢
  have hw : inI m → IntKind.wrap .i64 m = m := wrap_in
  unfold inI at hw ⊢
  by_cases c1 : ((p / 18446744073709551616 : Nat) : Int) > 0
  · have : ¬ (-9223372036854775808 ≤ m ∧ m ≤ 9223372036854775807) := by omega
    simp only [c1, this, decide_true, if_true, if_false]
  · by_cases c2 : ((p % 18446744073709551616 : Nat) : Int) > 9223372036854775808
    · have : ¬ (-9223372036854775808 ≤ m ∧ m ≤ 9223372036854775807) := by omega
      simp only [c1, c2, this]
      simp
    · have c1' : p < 18446744073709551616 := by omega
      have c2' : p ≤ 9223372036854775808 := by omega
      have hpm : p % 18446744073709551616 = p := by omega
      simp only [c1, c2, decide_false]
      simp only [hpm]
      by_cases c3 : p = 9223372036854775808
      · subst c3
        cases s with
        | true =>
          have : m = 9223372036854775808 := by
            rcases key with ⟨k1, k2⟩ | ⟨k1, k2⟩
            · omega
            · rcases k2 with k2 | k2
              · cases k2
              · omega
          subst this
          simp
        | false =>
          have : m = -9223372036854775808 := by
            rcases key with ⟨k1, k2⟩ | ⟨k1, k2⟩
            · rcases k2 with k2 | k2
              · cases k2
              · omega
            · omega
          subst this
          simp [IntKind.wrap_i64]
      · have c3' : ¬ ((p : Int) = 9223372036854775808) := by omega
        have : (-9223372036854775808 ≤ m ∧ m ≤ 9223372036854775807) := by omega
        simp [c3', this, hw this]
end Go.Proofs.Ytdmigcfokjobaaa

open Go Go.Ev

set_option linter.unusedSimpArgs false

set_option linter.unusedVariables false

namespace Go.Proofs.Ytdmigcfokjobaaa

theorem mx_abs (a : Int) (h : -9223372036854775808 < a) (h' : a ≤ 9223372036854775807) : mxI a (IntKind.wrap .i64 ((0 : Int) - a)) = (a.natAbs : Int) := by
  rw [IntKind.wrap_i64]
  unfold mxI
  split <;> omega
theorem tdivN (y : Nat) (hy : 0 < y) : IntKind.wrap .i64 (Int.tdiv (9223372036854775807 : Int) (y : Int)) = ((9223372036854775807 / y : Nat) : Int) := by
  have e : Int.tdiv (9223372036854775807 : Int) (y : Int) = ((9223372036854775807 / y : Nat) : Int) := rfl
  rw [e, IntKind.wrap_i64]
  have : 9223372036854775807 / y ≤ 9223372036854775807 := Nat.div_le_self _ _
  generalize 9223372036854775807 / y = q at this ⊢
  omega
theorem s46 (n : Nat) (a b : Int) (ha : inI a) (hb : inI b) : pcall C (n + 1) 46 [vI a, vI b] = some ([vI (if inI (a * b) then a * b else -9223372036854775808), vB (decide (inI (a * b)))], []) := by
  rw [pcall_step (by rfl), f46_vestryref13_times_eq]
  unfold f46_vestryref13_times
  by_cases a0 : a = 0
  · simp [a0, inI]
  by_cases b0 : b = 0
  · simp [a0, b0, inI]
  by_cases am : a = -9223372036854775808
  · subst am
    by_cases b1 : b = 1
    · subst b1; simp [inI]
    · have : ¬ inI (-9223372036854775808 * b) := by unfold inI at hb ⊢; omega
      simp [b0, b1, this]
  by_cases bm : b = -9223372036854775808
  · subst bm
    by_cases a1 : a = 1
    · subst a1; simp [inI]
    · have : ¬ inI (a * -9223372036854775808) := by unfold inI at ha ⊢; omega
      simp [a0, a1, am, this]
  unfold inI at ha hb
  have ea := mx_abs a (by omega) (by omega)
  have eb := mx_abs b (by omega) (by omega)
  have y0 : 0 < b.natAbs := by omega
  have x0 : 0 < a.natAbs := by omega
  have key := mul_abs a b
  simp only [a0, b0, am, bm, ea, eb, tdivN _ y0, ifB_eq, beq_iff_eq, if_false]
  have hx : a.natAbs ≤ 9223372036854775807 := by omega
  have hy : b.natAbs ≤ 9223372036854775807 := by omega
  have pm : ((a.natAbs : Int) * (b.natAbs : Int)) = ((a.natAbs * b.natAbs : Nat) : Int) := (Int.natCast_mul _ _).symm
  rw [pm]
  have d1 : 9223372036854775807 / b.natAbs < a.natAbs ↔ 9223372036854775807 < a.natAbs * b.natAbs := Nat.div_lt_iff_lt_mul y0
  have d2 : a.natAbs = 9223372036854775807 / b.natAbs + 1 → a.natAbs * b.natAbs ≤ 9223372036854775807 + b.natAbs := by
    intro h
    rw [h, Nat.add_mul]
    have := Nat.div_mul_le_self 9223372036854775807 b.natAbs
    omega
  have d3 : a.natAbs * b.natAbs = 9223372036854775808 → a.natAbs = 9223372036854775807 / b.natAbs + 1 := by
    intro h
    have h1 : 9223372036854775807 / b.natAbs < a.natAbs := d1.2 (by omega)
    have h2 : a.natAbs - 1 ≤ 9223372036854775807 / b.natAbs := by
      rw [Nat.le_div_iff_mul_le y0, Nat.sub_mul]
      omega
    omega
  have m0 : a * b ≠ 0 := Int.mul_ne_zero a0 b0
  have dl : 9223372036854775807 / b.natAbs ≤ 9223372036854775807 := Nat.div_le_self _ _
  generalize a.natAbs * b.natAbs = p at key pm d1 d2 d3 ⊢
  generalize a * b = m at key m0 ⊢
  generalize 9223372036854775807 / b.natAbs = q at d1 d2 d3 dl ⊢
  generalize (decide (a < 0) == decide (b < 0)) = s at key ⊢
  have hw : inI m → IntKind.wrap .i64 m = m := wrap_in
  have yne : ((b.natAbs : Nat) : Int) ≠ 0 := by omega
  simp only [show (((b.natAbs : Nat) : Int) != 0) = true by simp [b0], needB_true]
  by_cases c1 : ((a.natAbs : Nat) : Int) > (q : Int)
  · have p1 := d1.1 (by omega)
    simp only [c1, decide_true, if_true]
    cases s with
    | true =>
      have : ¬ inI m := by unfold inI; simp at key; omega
      simp [this]
    | false =>
      simp only [Bool.not_false, if_true]
      have ew : IntKind.wrap .i64 ((q : Int) + 1) = (if q = 9223372036854775807 then -9223372036854775808 else (q : Int) + 1) := by rw [IntKind.wrap_i64]; split <;> omega
      by_cases c2 : a.natAbs = q + 1
      · have p2 := d2 c2
        have : ((a.natAbs : Nat) : Int) = IntKind.wrap .i64 ((q : Int) + 1) := by rw [ew]; split <;> omega
        have e3 : (IntKind.wrap .i64 (p : Int) = -9223372036854775808) ↔ inI m := by rw [IntKind.wrap_i64]; unfold inI; simp at key; omega
        simp only [← this, if_true]
        by_cases c3 : inI m
        · have c4 := e3.2 c3
          have : m = -9223372036854775808 := by unfold inI at c3; simp at key; omega
          subst this
          simp [c4, inI]
        · have : ¬ (IntKind.wrap .i64 (p : Int) = -9223372036854775808) := fun h => c3 (e3.1 h)
          simp [c3, this]
      · have n1 : ¬ ((a.natAbs : Nat) : Int) = IntKind.wrap .i64 ((q : Int) + 1) := by rw [ew]; split <;> omega
        have n2 : ¬ inI m := by
          intro h
          unfold inI at h
          simp at key
          exact c2 (d3 (by omega))
        simp [n1, n2]
  · have p1 : p ≤ 9223372036854775807 := by
      have := mt d1.2 (by omega)
      omega
    have : inI m := by
      unfold inI
      rcases key with ⟨k1, _⟩ | ⟨k1, _⟩ <;> omega
    simp only [c1, decide_false]
    simp [this, hw this]

theorem tdiv_fit (a b : Int) (ha : inI a) (hb : b ≠ 0) : (a = -9223372036854775808 ∧ b = -1) ∨ inI (Int.tdiv a b) := by
  have h : (Int.tdiv a b).natAbs = a.natAbs / b.natAbs := Int.natAbs_tdiv a b
  have h2 : a.natAbs / b.natAbs ≤ a.natAbs := Nat.div_le_self _ _
  unfold inI at ha ⊢
  by_cases h3 : b.natAbs = 1
  · have : b = 1 ∨ b = -1 := by omega
    rcases this with rfl | rfl
    · rw [Int.tdiv_one]; omega
    · rw [Int.tdiv_neg, Int.tdiv_one]; omega
  · right
    have h4 : a.natAbs / b.natAbs ≤ a.natAbs / 2 := Nat.div_le_div_left (by omega) (by omega)
    have : a.natAbs / 2 ≤ 4611686018427387904 := by omega
    omega
theorem s26 (n : Nat) (o a b : Int) (ha : inI a) (hb : inI b) (ho : 9 ≤ o ∧ o ≤ 13) : pcall C (n + 3) 26 [vI o, vI a, vI b] = some ([vI (sumsN o a b).1, vI (sumsN o a b).2], []) := by
  rw [pcall_step (by rfl), f26_eval_reckon_eq]
  unfold f26_eval_reckon
  have cs : o = 9 ∨ o = 10 ∨ o = 11 ∨ o = 12 ∨ o = 13 := by omega
  rcases cs with rfl | rfl | rfl | rfl | rfl
  · simp only [sumsN, fitN]
    by_cases h : inI (a + b)
    · have : (decide (IntKind.wrap .i64 (a + b) > a) == decide (b > 0)) = true := by
        rw [wrap_in h]
        by_cases h2 : b > 0
        · simp [h2]; omega
        · simp [h2]; omega
      rw [wrap_in h] at this ⊢
      simp only [ifB_eq, if_true, this, h, beq_self_eq_true]
    · have : (decide (IntKind.wrap .i64 (a + b) > a) == decide (b > 0)) = false := by
        rw [IntKind.wrap_i64]
        unfold inI at h ha hb
        by_cases h2 : b > 0
        · simp [h2]; omega
        · simp [h2]; omega
      simp only [beq_self_eq_true, ifB_eq, if_true, this, h]
      simp
  · simp only [sumsN, fitN]
    by_cases h : inI (a - b)
    · have : (decide (IntKind.wrap .i64 (a - b) < a) == decide (b > 0)) = true := by
        rw [wrap_in h]
        by_cases h2 : b > 0
        · simp [h2]; omega
        · simp [h2]; omega
      rw [wrap_in h] at this ⊢
      simp only [ifB_eq, this, h]
      simp
    · have : (decide (IntKind.wrap .i64 (a - b) < a) == decide (b > 0)) = false := by
        rw [IntKind.wrap_i64]
        unfold inI at h ha hb
        by_cases h2 : b > 0
        · simp [h2]; omega
        · simp [h2]; omega
      simp only [ifB_eq, if_true, this, h]
      simp
  · simp [sumsN, s43 _ a b ha hb]
  · by_cases h0 : b = 0
    · simp [sumsN, h0]
    · have h := tdiv_fit a b ha h0
      have hb0 : (b != 0) = true := by simp [h0]
      by_cases h1 : a = -9223372036854775808
      · by_cases h2 : b = -1
        · subst h1; subst h2; simp [sumsN, fitN, inI]
        · have h3 : inI (Int.tdiv a b) := by rcases h with h | h; exact absurd h.2 h2; exact h
          have w := wrap_in h3
          simp only [sumsN, fitN, h0, h3, w, h2, hb0, needB_true, ifB_eq]
          simp [h0, h2]
      · have h3 : inI (Int.tdiv a b) := by rcases h with h | h; exact absurd h.1 h1; exact h
        simp [sumsN, fitN, h0, h1, h3, hb0, wrap_in h3]
  · by_cases h0 : b = 0
    · simp [sumsN, h0]
    · have hb0 : (b != 0) = true := by simp [h0]
      simp [sumsN, h0, hb0]
theorem s30 (n : Nat) (o a b : Int) (ha : inI a) (hb : inI b) (ho : 9 ≤ o ∧ o ≤ 13) : pcall C (n + 2) 30 [vI o, vI a, vI b] = some ([vI (sumsN o a b).1, vI (sumsN o a b).2], []) := by
  rw [pcall_step (by rfl), f30_vestryref13_sums_eq]
  unfold f30_vestryref13_sums
  have cs : o = 9 ∨ o = 10 ∨ o = 11 ∨ o = 12 ∨ o = 13 := by omega
  rcases cs with rfl | rfl | rfl | rfl | rfl
  · simp only [sumsN, fitN]
    by_cases h : inI (a + b)
    · have w := wrap_in h
      unfold inI at h ha hb
      by_cases h2 : b > 0
      · have e1 : ¬ (a > IntKind.wrap .i64 (9223372036854775807 - b)) := by rw [IntKind.wrap_i64]; omega
        have e2 : ¬ (b < 0) := by omega
        simp only [h2, e1, e2, w, decide_true, decide_false, ifB_eq]
        simp [inI, h]
      · by_cases h3 : b < 0
        · have e1 : ¬ (a < IntKind.wrap .i64 (-9223372036854775808 - b)) := by rw [IntKind.wrap_i64]; omega
          simp only [h2, e1, h3, w, decide_true, decide_false, ifB_eq]
          simp [inI, h]
        · simp only [h2, h3, w, decide_false, ifB_eq]
          simp [inI, h]
    · unfold inI at ha hb
      by_cases h2 : b > 0
      · have e1 : (a > IntKind.wrap .i64 (9223372036854775807 - b)) := by rw [IntKind.wrap_i64]; unfold inI at h; omega
        simp only [h2, e1, decide_true, ifB_eq]
        simp [h]
      · by_cases h3 : b < 0
        · have e1 : (a < IntKind.wrap .i64 (-9223372036854775808 - b)) := by rw [IntKind.wrap_i64]; unfold inI at h; omega
          simp only [h2, e1, h3, decide_true, decide_false, ifB_eq]
          simp [h]
        · exact absurd (by unfold inI; omega) h
  · simp only [sumsN, fitN]
    by_cases h : inI (a - b)
    · have w := wrap_in h
      unfold inI at h ha hb
      by_cases h2 : b > 0
      · have e1 : ¬ (a < IntKind.wrap .i64 (-9223372036854775808 + b)) := by rw [IntKind.wrap_i64]; omega
        have e2 : ¬ (b < 0) := by omega
        simp only [h2, e1, e2, w, decide_true, decide_false, ifB_eq]
        simp [inI, h]
      · by_cases h3 : b < 0
        · have e1 : ¬ (a > IntKind.wrap .i64 (9223372036854775807 + b)) := by rw [IntKind.wrap_i64]; omega
          simp only [h2, e1, h3, w, decide_true, decide_false, ifB_eq]
          simp [inI, h]
        · simp only [h2, h3, w, decide_false, ifB_eq]
          simp [inI, h]
    · unfold inI at ha hb
      by_cases h2 : b > 0
      · have e1 : (a < IntKind.wrap .i64 (-9223372036854775808 + b)) := by rw [IntKind.wrap_i64]; unfold inI at h; omega
        simp only [h2, e1, decide_true, ifB_eq]
        simp [h]
      · by_cases h3 : b < 0
        · have e1 : (a > IntKind.wrap .i64 (9223372036854775807 + b)) := by rw [IntKind.wrap_i64]; unfold inI at h; omega
          simp only [h2, e1, h3, decide_true, decide_false, ifB_eq]
          simp [h]
        · exact absurd (by unfold inI; omega) h
  · simp only [sumsN, fitN, s46 _ a b ha hb]
    by_cases h : inI (a * b) <;> simp [h]
  · by_cases h0 : b = 0
    · simp [sumsN, h0]
    · have h := tdiv_fit a b ha h0
      have hb0 : (b != 0) = true := by simp [h0]
      by_cases h2 : b = -1
      · subst h2
        by_cases h1 : a = -9223372036854775808
        · subst h1; simp [sumsN, fitN, inI]
        · have h3 : inI (Int.tdiv a (-1)) := by rcases h with h | h; exact absurd h.1 h1; exact h
          have : IntKind.wrap .i64 (0 - a) = Int.tdiv a (-1) := by
            rw [Int.tdiv_neg, Int.tdiv_one, IntKind.wrap_i64]; unfold inI at ha; omega
          rw [this]
          simp only [sumsN, fitN, h1, h3, ifB_eq]
          simp [h1]
      · have h3 : inI (Int.tdiv a b) := by rcases h with h | h; exact absurd h.2 h2; exact h
        simp [sumsN, fitN, h0, h2, h3, hb0, wrap_in h3]
  · by_cases h0 : b = 0
    · simp [sumsN, h0]
    · have hb0 : (b != 0) = true := by simp [h0]
      by_cases h2 : b = -1
      · subst h2
        simp [sumsN]
      · simp [sumsN, h0, hb0, h2]
end Go.Proofs.Ytdmigcfokjobaaa

open Go Go.Ev

set_option linter.unusedSimpArgs false

set_option linter.unusedVariables false

set_option maxHeartbeats 1000000

namespace Go.Proofs.Ytdmigcfokjobaaa

theorem compareBytes_self : ∀ a : List UInt8, Lib.compareBytes a a = 0
  | [] => rfl
  | x :: a => by
    have : ¬ x < x := UInt8.lt_irrefl x
    simp only [Lib.compareBytes, this, if_false]
    exact compareBytes_self a
theorem compareBytes_eq : ∀ a b : List UInt8, Lib.compareBytes a b = if a = b then 0 else if Op.bytesLess a b then -1 else 1
  | [], [] => rfl
  | [], _ :: _ => rfl
  | _ :: _, [] => rfl
  | x :: a, y :: b => by
    simp only [Lib.compareBytes, Op.bytesLess]
    by_cases h1 : x < y
    · have : x ≠ y := fun h => UInt8.lt_irrefl y (h ▸ h1)
      simp [h1, this]
    · by_cases h2 : y < x
      · have : x ≠ y := fun h => UInt8.lt_irrefl y (h ▸ h2)
        simp [h1, h2, this]
      · have : x = y := UInt8.le_antisymm (UInt8.not_lt.1 h2) (UInt8.not_lt.1 h1)
        subst this
        simp only [h1, if_false, compareBytes_eq a b]
        simp
theorem s49 (n : Nat) (a b : List UInt8) : pcall C (n + 1) 49 [.flat (.val (.str a)), .flat (.val (.str b))] = some ([vI (Lib.compareBytes a b)], []) := rfl
theorem s52 (n : Nat) (a : Int) : pcall C (n + 1) 52 [vI a] = some ([vB false], []) := by
  rw [pcall_step (by rfl), f52_cmp_isNaN_int_eq]
  unfold f52_cmp_isNaN_int
  simp
theorem s48 (n : Nat) (a b : Int) : pcall C (n + 2) 48 [vI a, vI b] = some ([vI (if a < b then -1 else if b < a then 1 else 0)], []) := by
  rw [pcall_step (by rfl), f48_cmp_Compare_int_eq]
  unfold f48_cmp_Compare_int
  simp only [s52, callB_some, ok4, needB_true, List.headD_cons, fvF, pvF, toB_bool, ifB_eq]
  by_cases h : a < b
  · simp [h]
  by_cases h' : b < a <;> simp [h, h']
theorem s47 (n : Nat) (x y z : Int) : pcall C (n + 6) 47 [.flat (.val (.sl none [.int .i64 x, .int .i64 y, .int .i64 z]))] = some ([vI (if x ≠ 0 then x else if y ≠ 0 then y else z)], []) := by
  rw [pcall_step (by rfl), f47_cmp_Or_int_eq]
  unfold f47_cmp_Or_int f47_cmp_Or_int.pre
  have w1 : IntKind.wrap .i64 (0 + 1) = 1 := by decide
  have w2 : IntKind.wrap .i64 (1 + 1) = 2 := by decide
  have w3 : IntKind.wrap .i64 (2 + 1) = 3 := by decide
  have z0 : (0 : Int).toNat = 0 := rfl
  have z1 : (1 : Int).toNat = 1 := rfl
  have z2 : (2 : Int).toNat = 2 := rfl
  simp only [f47_cmp_Or_int.l0, f47_cmp_Or_int.l0.step, w1, w2, w3, z0, z1, z2, nthP, List.getD_cons_zero, List.getD_cons_succ, List.length_cons, List.length_nil, hasT3, toI_int]
  by_cases hx : x = 0
  · by_cases hy : y = 0
    · by_cases hz : z = 0 <;> simp [hx, hy, hz]
    · simp [hx, hy]
  · simp [hx]
theorem s41 (n : Nat) (k1 n1 : Int) (t1 : List UInt8) (k2 n2 : Int) (t2 : List UInt8) : pcall C (n + 7) 41 [vV k1 n1 t1, vV k2 n2 t2] = some ([vI (cmpN ⟨k1, n1, t1⟩ ⟨k2, n2, t2⟩)], []) := by
  rw [pcall_step (by rfl), f41_value_Compare_eq]
  unfold f41_value_Compare
  simp only [s48, s49, s47, callB_some, ok3, needB_true, List.headD_cons, fvF, pvF, toI_int, cmpN]
  by_cases h : k1 < k2
  · simp [h]
  by_cases h' : k2 < k1
  · simp [h, h']
  by_cases h3 : n1 < n2
  · simp [h, h', h3]
  by_cases h4 : n2 < n1
  · simp [h, h', h3, h4]
  simp [h, h', h3, h4]
theorem s45 (n : Nat) (k1 n1 : Int) (t1 : List UInt8) (k2 n2 : Int) (t2 : List UInt8) : pcall C (n + 1) 45 [vV k1 n1 t1, vV k2 n2 t2] = some ([vI (cmpN ⟨k1, n1, t1⟩ ⟨k2, n2, t2⟩)], []) := by
  rw [pcall_step (by rfl), f45_vestryref07_Compare_eq]
  unfold f45_vestryref07_Compare
  simp only [cmpN, compareBytes_eq]
  by_cases h : k1 < k2
  · have : k1 ≠ k2 := by omega
    simp [h, this]
  by_cases h' : k2 < k1
  · have : k1 ≠ k2 := by omega
    simp [h, h', this]
  have e1 : k1 = k2 := by omega
  by_cases h3 : n1 < n2
  · have : n1 ≠ n2 := by omega
    simp [h3, this, e1]
  by_cases h4 : n2 < n1
  · have : n1 ≠ n2 := by omega
    simp [h3, h4, this, e1]
  have e2 : n1 = n2 := by omega
  subst e1 e2
  by_cases h5 : t1 = t2
  · simp [h5]
  · by_cases h6 : Op.bytesLess t1 t2 <;> simp [h5, h6]
theorem s23 (n : Nat) (o k1 n1 : Int) (t1 : List UInt8) (k2 n2 : Int) (t2 : List UInt8) (ho : o = 1 ∨ o = 2) (h1 : 0 ≤ k1 ∧ k1 ≤ 2) (h2 : 0 ≤ k2 ∧ k2 ≤ 2) : pcall C (n + 2) 23 [vI o, vV k1 n1 t1, vV k2 n2 t2] = some ([vV (bothN o ⟨k1, n1, t1⟩ ⟨k2, n2, t2⟩).v.k (bothN o ⟨k1, n1, t1⟩ ⟨k2, n2, t2⟩).v.n (bothN o ⟨k1, n1, t1⟩ ⟨k2, n2, t2⟩).v.t, vI (bothN o ⟨k1, n1, t1⟩ ⟨k2, n2, t2⟩).e], []) := by
  rw [pcall_step (by rfl), f23_eval_logic_eq]
  unfold f23_eval_logic
  have c1 : k1 = 0 ∨ k1 = 1 ∨ k1 = 2 := by omega
  have c2 : k2 = 0 ∨ k2 = 1 ∨ k2 = 2 := by omega
  rcases ho with rfl | rfl <;> rcases c1 with rfl | rfl | rfl <;> rcases c2 with rfl | rfl | rfl <;> by_cases a0 : n1 = 0 <;> by_cases b0 : n2 = 0 <;> simp [s36, s40, bothN, holdsN, nullV, numV, a0, b0]
theorem bneI (n : Int) : (n != 0) = !decide (n = 0) := by
  by_cases h : n = 0 <;> simp [h]
theorem s28 (n : Nat) (o k1 n1 : Int) (t1 : List UInt8) (k2 n2 : Int) (t2 : List UInt8) (ho : o = 1 ∨ o = 2) (h1 : 0 ≤ k1 ∧ k1 ≤ 2) (h2 : 0 ≤ k2 ∧ k2 ≤ 2) : pcall C (n + 3) 28 [vI o, vV k1 n1 t1, vV k2 n2 t2] = some ([vV (bothN o ⟨k1, n1, t1⟩ ⟨k2, n2, t2⟩).v.k (bothN o ⟨k1, n1, t1⟩ ⟨k2, n2, t2⟩).v.n (bothN o ⟨k1, n1, t1⟩ ⟨k2, n2, t2⟩).v.t, vI (bothN o ⟨k1, n1, t1⟩ ⟨k2, n2, t2⟩).e], []) := by
  rw [pcall_step (by rfl), f28_vestryref13_both_eq]
  unfold f28_vestryref13_both
  have c1 : k1 = 0 ∨ k1 = 1 ∨ k1 = 2 := by omega
  have c2 : k2 = 0 ∨ k2 = 1 ∨ k2 = 2 := by omega
  rcases ho with rfl | rfl <;> rcases c1 with rfl | rfl | rfl <;> rcases c2 with rfl | rfl | rfl <;> by_cases a0 : n1 = 0 <;> by_cases b0 : n2 = 0 <;> simp [s39, s44, bothN, holdsN, nullV, numV, a0, b0, bneI]
theorem s24 (n : Nat) (o k1 n1 : Int) (t1 : List UInt8) (k2 n2 : Int) (t2 : List UInt8) (ho : 3 ≤ o ∧ o ≤ 8) : pcall C (n + 8) 24 [vI o, vV k1 n1 t1, vV k2 n2 t2] = some (if k1 ≠ k2 then [vV 0 0 [], vI 9] else [vV (testN o ⟨k1, n1, t1⟩ ⟨k2, n2, t2⟩).k (testN o ⟨k1, n1, t1⟩ ⟨k2, n2, t2⟩).n (testN o ⟨k1, n1, t1⟩ ⟨k2, n2, t2⟩).t, vI 0], []) := by
  rw [pcall_step (by rfl), f24_eval_test_eq]
  unfold f24_eval_test
  simp only [s41, callB_some, ok3, needB_true, List.headD_cons, fvF, pvF, toI_int, testN]
  by_cases hk : k1 = k2
  · subst hk
    generalize cmpN ⟨k1, n1, t1⟩ ⟨k1, n2, t2⟩ = c
    have cs : o = 3 ∨ o = 4 ∨ o = 5 ∨ o = 6 ∨ o = 7 ∨ o = 8 := by omega
    rcases cs with rfl | rfl | rfl | rfl | rfl | rfl
    · simp [s42, yesV]; try rfl
    · simp [s42, yesV]; try rfl
    · simp [s42, yesV]; try rfl
    · by_cases h0 : c = 0
      · simp [s42, yesV, h0]; try rfl
      · have : decide (c ≤ 0) = decide (c < 0) := by
          rw [decide_eq_decide]
          omega
        simp only [this]
        simp [s42, yesV, h0]; try rfl
    · simp [s42, yesV]; try rfl
    · by_cases h0 : c = 0
      · simp [s42, yesV, h0]; try rfl
      · have : decide (c ≥ 0) = decide (c > 0) := by
          rw [decide_eq_decide]
          omega
        simp only [this]
        simp [s42, yesV, h0]; try rfl
  · simp [hk]
theorem s29 (n : Nat) (o k1 n1 : Int) (t1 : List UInt8) (k2 n2 : Int) (t2 : List UInt8) : pcall C (n + 3) 29 [vI o, vV k1 n1 t1, vV k2 n2 t2] = some ([vV (testN o ⟨k1, n1, t1⟩ ⟨k2, n2, t2⟩).k (testN o ⟨k1, n1, t1⟩ ⟨k2, n2, t2⟩).n (testN o ⟨k1, n1, t1⟩ ⟨k2, n2, t2⟩).t], []) := by
  rw [pcall_step (by rfl), f29_vestryref13_test_eq]
  unfold f29_vestryref13_test
  simp only [s45, s44, callB_some, ok3, ok23, needB_true, List.headD_cons, List.tail_cons, fvF, pvF, toI_int, toS_str, cellsA, testN, ifB_eq, beq_iff_eq]
  split
  · simp [yesV]; try rfl
  split
  · simp [yesV]; try rfl
  split
  · simp [yesV]; try rfl
  split
  · simp [yesV]; try rfl
  split
  · simp [yesV]; try rfl
  simp [yesV]; try rfl
end Go.Proofs.Ytdmigcfokjobaaa

open Go Go.Ev

set_option linter.unusedSimpArgs false

set_option linter.unusedVariables false

set_option maxHeartbeats 1000000

namespace Go.Proofs.Ytdmigcfokjobaaa

theorem right_kind {v : Vl} (h : rightN v = 0) : 0 ≤ v.k ∧ v.k ≤ 2 := by
  unfold rightN at h
  by_cases h1 : v.k < 0 ∨ v.k > 2
  · simp [h1] at h
  · omega
theorem s9 (n : Nat) (o k1 n1 : Int) (t1 : List UInt8) (k2 n2 : Int) (t2 : List UInt8) (h1 : inI n1) (h2 : inI n2) : pcall C (n + 9) 9 [vI o, vV k1 n1 t1, vV k2 n2 t2] = some ([vV (opN o ⟨k1, n1, t1⟩ ⟨k2, n2, t2⟩).v.k (opN o ⟨k1, n1, t1⟩ ⟨k2, n2, t2⟩).v.n (opN o ⟨k1, n1, t1⟩ ⟨k2, n2, t2⟩).v.t, vI (opN o ⟨k1, n1, t1⟩ ⟨k2, n2, t2⟩).e], []) := by
  rw [pcall_step (by rfl), f9_eval_Op_eq]
  unfold f9_eval_Op
  unfold opN
  simp only [s11, callB_some, ok25, needB_true, List.headD_cons, fvF, pvF, toI_int]
  by_cases c1 : o < 1
  · simp [c1, nullV]
  by_cases c2 : o > 13
  · simp [c1, c2, nullV]
  by_cases c3 : rightN ⟨k1, n1, t1⟩ ≠ 0
  · simp [c1, c2, c3, nullV]
  have c3 := Decidable.not_not.1 c3
  by_cases c4 : rightN ⟨k2, n2, t2⟩ ≠ 0
  · simp [c1, c2, c3, c4, nullV]
  have c4 := Decidable.not_not.1 c4
  have r1 := right_kind c3
  have r2 := right_kind c4
  dsimp only at r1 r2
  simp only [c1, c2, c3, c4, decide_false, bne_self_eq_false, ifB_eq, Bool.false_eq_true, if_false, ne_eq, not_true_eq_false, or_self]
  clear c3 c4
  by_cases c5 : o ≤ 2
  · have ho : o = 1 ∨ o = 2 := by omega
    simp only [c5, s23 _ o k1 n1 t1 k2 n2 t2 ho r1 r2]
    simp
  by_cases c6 : k1 = 0
  · simp [c5, c6, nullV]
  by_cases c7 : k2 = 0
  · simp [c5, c6, c7, nullV]
  by_cases c8 : o ≤ 8
  · have ho : 3 ≤ o ∧ o ≤ 8 := by omega
    simp only [c5, c6, c7, c8, s24 _ o k1 n1 t1 k2 n2 t2 ho]
    by_cases c9 : k1 = k2 <;> simp [c6, c7, c9, nullV]
  by_cases c9 : k1 = 2
  · simp [c5, c6, c7, c8, c9, nullV]
  by_cases c10 : k2 = 2
  · simp [c5, c6, c7, c8, c9, c10, nullV]
  have ho : 9 ≤ o ∧ o ≤ 13 := by omega
  simp only [c5, c6, c7, c8, c9, c10, s26 _ o n1 n2 h1 h2 ho, callB_some, ok325, needB_true, List.headD_cons, List.tail_cons, fvF, pvF, toI_int, s25]
  simp [c6, c7, c9, c10]
theorem s10 (n : Nat) (o k1 n1 : Int) (t1 : List UInt8) (k2 n2 : Int) (t2 : List UInt8) (h1 : inI n1) (h2 : inI n2) : pcall C (n + 4) 10 [vI o, vV k1 n1 t1, vV k2 n2 t2] = some ([vV (opN o ⟨k1, n1, t1⟩ ⟨k2, n2, t2⟩).v.k (opN o ⟨k1, n1, t1⟩ ⟨k2, n2, t2⟩).v.n (opN o ⟨k1, n1, t1⟩ ⟨k2, n2, t2⟩).v.t, vI (opN o ⟨k1, n1, t1⟩ ⟨k2, n2, t2⟩).e], []) := by
  rw [pcall_step (by rfl), f10_vestryref13_Op_eq]
  unfold f10_vestryref13_Op
  unfold opN
  simp only [s27, callB_some, ok25, needB_true, List.headD_cons, fvF, pvF, toI_int]
  by_cases c1 : o < 1
  · simp [c1, nullV]
  by_cases c2 : o > 13
  · simp [c1, c2, nullV]
  by_cases c3 : rightN ⟨k1, n1, t1⟩ ≠ 0
  · simp [c1, c2, c3, nullV]
  have c3 := Decidable.not_not.1 c3
  by_cases c4 : rightN ⟨k2, n2, t2⟩ ≠ 0
  · simp [c1, c2, c3, c4, nullV]
  have c4 := Decidable.not_not.1 c4
  have r1 := right_kind c3
  have r2 := right_kind c4
  dsimp only at r1 r2
  simp only [c1, c2, c3, c4, decide_false, bne_self_eq_false, ifB_eq, Bool.false_eq_true, if_false, ne_eq, not_true_eq_false, or_self]
  clear c3 c4
  by_cases c5 : o ≤ 2
  · have ho : o = 1 ∨ o = 2 := by omega
    simp only [c5, s28 _ o k1 n1 t1 k2 n2 t2 ho r1 r2]
    simp
  by_cases c6 : k1 = 0
  · simp [c5, c6, nullV]
  by_cases c7 : k2 = 0
  · simp [c5, c6, c7, nullV]
  by_cases c8 : o ≤ 8
  · by_cases c9 : k1 = k2
    · simp only [c5, c6, c7, c8, s29, c9]
      simp [c7]
    · simp [c5, c6, c7, c8, c9, nullV]
  by_cases c9 : k1 = 2
  · simp [c5, c6, c7, c8, c9, nullV]
  by_cases c10 : k2 = 2
  · simp [c5, c6, c7, c8, c9, c10, nullV]
  have ho : 9 ≤ o ∧ o ≤ 13 := by omega
  simp only [c5, c6, c7, c8, c9, c10, s30 _ o n1 n2 h1 h2 ho, callB_some, ok325, needB_true, List.headD_cons, List.tail_cons, fvF, pvF, toI_int]
  by_cases c11 : (sumsN o n1 n2).2 = 0 <;> simp [c6, c7, c9, c10, c11, numR, nullV, numV, s31]
theorem s33 (n : Nat) (k m : Int) (t : List UInt8) : pcall C (n + 3) 33 [vV k m t] = some ([vV (knownN ⟨k, m, t⟩).v.k (knownN ⟨k, m, t⟩).v.n (knownN ⟨k, m, t⟩).v.t, vI (knownN ⟨k, m, t⟩).e], []) := by
  rw [pcall_step (by rfl), f33_eval_known_eq]
  unfold f33_eval_known knownN
  by_cases h : rightN ⟨k, m, t⟩ = 0 <;> simp [s11, h, nullV]
theorem s37 (n : Nat) (k m : Int) (t : List UInt8) : pcall C (n + 2) 37 [vV k m t] = some ([vV (knownN ⟨k, m, t⟩).v.k (knownN ⟨k, m, t⟩).v.n (knownN ⟨k, m, t⟩).v.t, vI (knownN ⟨k, m, t⟩).e], []) := by
  rw [pcall_step (by rfl), f37_vestryref13_right_eq]
  unfold f37_vestryref13_right knownN
  by_cases h : rightN ⟨k, m, t⟩ = 0 <;> simp [s27, h, nullV]
theorem neg_fit (m : Int) (h : inI m) : if m = -9223372036854775808 then ¬ inI (-m) else inI (-m) ∧ IntKind.wrap .i64 (0 - m) = -m := by
  unfold inI at h ⊢
  split
  · omega
  · rw [IntKind.wrap_i64]; omega
theorem s34 (n : Nat) (o k m : Int) (t : List UInt8) (hm : inI m) : pcall C (n + 3) 34 [vI o, vV k m t] = some ([vV (oneN o ⟨k, m, t⟩).v.k (oneN o ⟨k, m, t⟩).v.n (oneN o ⟨k, m, t⟩).v.t, vI (oneN o ⟨k, m, t⟩).e], []) := by
  rw [pcall_step (by rfl), f34_eval_one_eq]
  unfold f34_eval_one oneN
  have w := neg_fit m hm
  by_cases c1 : o = 6
  · simp [c1, s42, yesV]
  by_cases c2 : k = 0
  · simp [c1, c2]
  by_cases c3 : k = 2
  · simp [c1, c2, c3, nullV]
  by_cases c4 : o = 4
  · simp [c1, c2, c3, c4, s42, yesV]
  by_cases c5 : m = -9223372036854775808
  · simp only [c5, if_true] at w
    simp only [c1, c2, c3, c4, c5, fitN, w]
    simp [c1, c2, c3, c4, numR, nullV]
  · simp only [c5, if_false] at w
    rw [w.2]
    simp only [c1, c2, c3, c4, c5, fitN, w.1, s25]
    simp [c1, c2, c3, c4, c5]
theorem s38 (n : Nat) (o k m : Int) (t : List UInt8) (hm : inI m) : pcall C (n + 3) 38 [vI o, vV k m t] = some ([vV (oneN o ⟨k, m, t⟩).v.k (oneN o ⟨k, m, t⟩).v.n (oneN o ⟨k, m, t⟩).v.t, vI (oneN o ⟨k, m, t⟩).e], []) := by
  rw [pcall_step (by rfl), f38_vestryref13_one_eq]
  unfold f38_vestryref13_one oneN
  have w := neg_fit m hm
  by_cases c1 : o = 6
  · simp [c1, s44, yesV]
  by_cases c2 : k = 0
  · simp [c1, c2]
  by_cases c3 : k = 2
  · simp [c1, c2, c3, nullV]
  by_cases c4 : o = 4
  · simp [c1, c2, c3, c4, s44, yesV]
  by_cases c5 : m = -9223372036854775808
  · simp only [c5, if_true] at w
    simp only [c1, c2, c3, c4, c5, fitN, w]
    simp [c1, c2, c3, c4, numR, nullV]
  · simp only [c5, if_false] at w
    rw [w.2]
    simp only [c1, c2, c3, c4, c5, fitN, w.1, s31]
    simp [c1, c2, c3, c4, c5, numR, numV]
end Go.Proofs.Ytdmigcfokjobaaa

open Go Go.Ev

set_option linter.unusedSimpArgs false

set_option linter.unusedVariables false

set_option maxHeartbeats 1000000

namespace Go.Proofs.Ytdmigcfokjobaaa

theorem s17 (n : Nat) (a : Int) : pcall C (n + 1) 17 [vI a] = some ([vV 1 a []], []) := by
  rw [pcall_step (by rfl), f17_vestrylaw07_Num_eq]
  rfl
theorem s22 (n : Nat) (a : List UInt8) : pcall C (n + 1) 22 [.flat (.val (.str a))] = some ([vV 2 0 a], []) := by
  rw [pcall_step (by rfl), f22_vestrylaw07_Text_eq]
  rfl
theorem s8 (n : Nat) : pcall C (n + 10) 8 [] = some ([vB true], []) := by
  rw [pcall_step (by rfl), f8_vestrylaw13_small_eq]
  unfold f8_vestrylaw13_small
  have i0 : inI 0 := by decide
  have i1 : inI 1 := by decide
  have i2 : inI 2 := by decide
  have i7 : inI (-7) := by decide
  have im : inI 9223372036854775807 := by decide
  have e1 : opN 2 ⟨0, 0, []⟩ ⟨1, 0, []⟩ = ⟨⟨1, 0, []⟩, 0⟩ := by decide
  have e2 : opN 1 ⟨0, 0, []⟩ ⟨1, 0, []⟩ = ⟨⟨0, 0, []⟩, 0⟩ := by decide
  have e3 : opN 9 ⟨1, 9223372036854775807, []⟩ ⟨1, 1, []⟩ = ⟨⟨0, 0, []⟩, 7⟩ := by decide
  have e4 : opN 12 ⟨1, -7, []⟩ ⟨1, 2, []⟩ = ⟨⟨1, -3, []⟩, 0⟩ := by decide
  have e5 : opN 5 ⟨1, 0, []⟩ ⟨2, 0, [97]⟩ = ⟨⟨0, 0, []⟩, 9⟩ := by decide
  simp only [s17, s22, callB_some, ok23, ok2325, needB_true, List.headD_cons, List.tail_cons, fvF, pvF, toI_int, toS_str, cellsA, s9 _ _ _ 0 _ _ 0 _ i0 i0, s9 _ _ _ 9223372036854775807 _ _ 1 _ im i1, s9 _ _ _ (-7) _ _ 2 _ i7 i2, e1, e2, e3, e4, e5]
  simp
theorem s3 (n : Nat) (o k1 n1 : Int) (t1 : List UInt8) (k2 n2 : Int) (t2 : List UInt8) (h1 : inI n1) (h2 : inI n2) : pcall C (n + 11) 3 [vI o, vV k1 n1 t1, vV k2 n2 t2] = some ([vB true], []) := by
  rw [pcall_step (by rfl), f3_vestrylaw13_EvalOps_eq]
  unfold f3_vestrylaw13_EvalOps
  simp only [s8, s9 _ o k1 n1 t1 k2 n2 t2 h1 h2, s10 _ o k1 n1 t1 k2 n2 t2 h1 h2, callB_some, ok4, ok2325, needB_true, List.headD_cons, List.tail_cons, fvF, pvF, toI_int, toB_bool, toS_str, cellsA]
  simp
end Go.Proofs.Ytdmigcfokjobaaa

