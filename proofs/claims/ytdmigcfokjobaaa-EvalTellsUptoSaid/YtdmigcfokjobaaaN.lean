/- What the functions answer, and the laws. -/
import Derived.Test.YtdmigcfokjobaaaSh
import Derived.Lib.Mul64
import Derived.Shelf.Bits.Mul64
import Derived.Lib.Bytealg

set_option linter.unusedVariables false

set_option linter.unusedSimpArgs false

set_option linter.unusedSectionVars false

open Go Go.Ev

set_option linter.unusedSimpArgs false

set_option linter.unusedVariables false

namespace Go.Proofs.Ytdmigcfokjobaaa

abbrev vI (n : Int) : OV := .flat (.val (.int .i64 n))
abbrev vU (n : Int) : OV := .flat (.val (.int .u64 n))
abbrev vB (b : Bool) : OV := .flat (.val (.bool b))
abbrev vV (k n : Int) (t : List UInt8) : OV := .flat (.val (.agg [.int .i64 k, .int .i64 n, .str t]))

/-- A value, and what comes back with one. -/
structure Vl where
  k : Int
  n : Int
  t : List UInt8
  deriving DecidableEq
structure Rs where
  v : Vl
  e : Int
  deriving DecidableEq
theorem Vl.eta (x : Vl) : Vl.mk x.k x.n x.t = x := rfl
theorem Rs.eta (x : Rs) : Rs.mk x.v x.e = x := rfl
def nullV : Vl := ⟨0, 0, []⟩
def numV (n : Int) : Vl := ⟨1, n, []⟩
def bitN : Bool → Int
  | true => 1
  | false => 0
@[simp] theorem bitN_true : bitN true = 1 := rfl
@[simp] theorem bitN_false : bitN false = 0 := rfl
def yesV (b : Bool) : Vl := ⟨1, bitN b, []⟩
def sameV (a b : Vl) : Bool := (a.k == b.k) && ((a.n == b.n) && ((a.t == b.t) && true))
theorem sameV_iff (a b : Vl) : sameV a b = true ↔ a = b := by
  cases a; cases b; simp [sameV]
theorem sameV_refl (a : Vl) : sameV a a = true := by rw [sameV_iff]

theorem ok4 (b : Bool) : okOs Go.Proofs.Try.prog [4] [] [vB b] = true := by kernel_rfl
theorem ok3 (n : Int) : okOs Go.Proofs.Try.prog [3] [] [vI n] = true := by kernel_rfl
theorem ok25 (n : Int) : okOs Go.Proofs.Try.prog [25] [] [vI n] = true := by kernel_rfl
theorem ok65 (n : Int) : okOs Go.Proofs.Try.prog [65] [] [vU n] = true := by kernel_rfl
theorem ok6565 (n m : Int) : okOs Go.Proofs.Try.prog [65, 65] [] [vU n, vU m] = true := by kernel_rfl
theorem ok325 (n m : Int) : okOs Go.Proofs.Try.prog [3, 25] [] [vI n, vI m] = true := by kernel_rfl
theorem ok34 (n : Int) (b : Bool) : okOs Go.Proofs.Try.prog [3, 4] [] [vI n, vB b] = true := by kernel_rfl
theorem ok425 (b : Bool) (n : Int) : okOs Go.Proofs.Try.prog [4, 25] [] [vB b, vI n] = true := by kernel_rfl
theorem ok23 (k n : Int) (t : List UInt8) : okOs Go.Proofs.Try.prog [23] [] [vV k n t] = true := by kernel_rfl
theorem ok2325 (k n : Int) (t : List UInt8) (e : Int) : okOs Go.Proofs.Try.prog [23, 25] [] [vV k n t, vI e] = true := by kernel_rfl
theorem hasT3 (n : Int) : hasT Go.Proofs.Try.prog 3 (.int .i64 n) = true := by kernel_rfl
theorem hasT23 (k n : Int) (t : List UInt8) : hasT Go.Proofs.Try.prog 23 (.agg [.int .i64 k, .int .i64 n, .str t]) = true := by kernel_rfl


@[simp] theorem needB_true {α : Type} (x : Option α) : needB true x = x := by
  have h : ∀ b : Bool, b = true → needB b x = x := by
    intro b hb
    subst hb
    rfl
  exact h true rfl
@[simp] theorem ifB_eq {α : Type} (b : Bool) (x y : Option α) : ifB b x y = if b = true then x else y := by cases b <;> rfl
@[simp] theorem callB_some {α β : Type} (a : α) (k : α → Option β) : callB (some a) k = k a := by
  have h : ∀ r : Option α, r = some a → callB r k = k a := by
    intro r hr
    subst hr
    rfl
  exact h _ rfl
theorem pcall_step {n : Nat} {f : FuncId} {args : List OV} (h : C.prim f = none) : pcall C (n + 1) f args = callBody C (pcall C n) n f args := by
  show (match C.prim f with
    | some p => p args
    | none => callBody C (pcall C n) n f args) = _
  rw [h]
@[simp] theorem fvF (f : FV) : OV.fv (.flat f) = f := rfl
@[simp] theorem pvF (v : PV) : FV.pv (.val v) = v := rfl
@[simp] theorem cellsA (l : List PV) : PV.cells (.agg l) = l := rfl
@[simp] theorem toI_int (k : IntKind) (n : Int) : PV.toI (.int k n) = n := rfl
@[simp] theorem toB_bool (b : Bool) : PV.toB (.bool b) = b := rfl
@[simp] theorem toS_str (b : List UInt8) : PV.toS (.str b) = b := rfl
@[simp] theorem toL_sl (sh : Option Nat) (b : List PV) : PV.toL (.sl sh b) = b := rfl
attribute [simp] ok4 ok3 ok25 ok65 ok6565 ok325 ok34 ok425 ok23 ok2325 hasT3 hasT23

def inI (n : Int) : Prop := -9223372036854775808 ≤ n ∧ n ≤ 9223372036854775807
instance (n : Int) : Decidable (inI n) := inferInstanceAs (Decidable (_ ∧ _))
theorem wrap_in {n : Int} (h : inI n) : IntKind.wrap .i64 n = n := by
  rw [IntKind.wrap_i64]; unfold inI at h; omega

def rightN (v : Vl) : Int := if v.k < 0 ∨ v.k > 2 then 4 else if v.k ≠ 1 ∧ v.n ≠ 0 then 4 else if v.k ≠ 2 ∧ v.t ≠ [] then 4 else if v.t.length > 40 then 2 else 0
def holdsN (v : Vl) : Bool := v.k == 1 && v.n != 0
def bothN (o : Int) (a b : Vl) : Rs :=
  if a.k = 2 ∨ b.k = 2 then ⟨nullV, 9⟩
  else if o = 1 then (if holdsN a || holdsN b then ⟨numV 1, 0⟩ else if a.k = 0 ∨ b.k = 0 then ⟨nullV, 0⟩ else ⟨numV 0, 0⟩)
  else (if (a.k == 1 && a.n == 0) || (b.k == 1 && b.n == 0) then ⟨numV 0, 0⟩ else if a.k = 0 ∨ b.k = 0 then ⟨nullV, 0⟩ else ⟨numV 1, 0⟩)
def cmpN (a b : Vl) : Int := if a.k < b.k then -1 else if b.k < a.k then 1 else if a.n < b.n then -1 else if b.n < a.n then 1 else Lib.compareBytes a.t b.t
def testN (o : Int) (a b : Vl) : Vl :=
  let c := cmpN a b
  if o = 3 then yesV (c == 0) else if o = 4 then yesV (c != 0) else if o = 5 then yesV (decide (c < 0)) else if o = 6 then yesV (decide (c ≤ 0)) else if o = 7 then yesV (decide (c > 0)) else yesV (decide (c ≥ 0))
def fitN (n : Int) : Int × Int := if inI n then (n, 0) else (0, 7)
def sumsN (o a b : Int) : Int × Int :=
  if o = 9 then fitN (a + b) else if o = 10 then fitN (a - b) else if o = 11 then fitN (a * b)
  else if b = 0 then (0, 8) else if o = 12 then fitN (Int.tdiv a b) else (Int.tmod a b, 0)
def numR (r : Int × Int) : Rs := if r.2 = 0 then ⟨numV r.1, 0⟩ else ⟨nullV, r.2⟩
def opN (o : Int) (a b : Vl) : Rs :=
  if o < 1 ∨ o > 13 ∨ rightN a ≠ 0 ∨ rightN b ≠ 0 then ⟨nullV, 4⟩
  else if o ≤ 2 then bothN o a b
  else if a.k = 0 ∨ b.k = 0 then ⟨nullV, 0⟩
  else if o ≤ 8 then (if a.k ≠ b.k then ⟨nullV, 9⟩ else ⟨testN o a b, 0⟩)
  else if a.k = 2 ∨ b.k = 2 then ⟨nullV, 9⟩
  else numR (sumsN o a.n b.n)
def oneN (k : Int) (v : Vl) : Rs :=
  if k = 6 then ⟨yesV (v.k == 0), 0⟩ else if v.k = 0 then ⟨v, 0⟩ else if v.k = 2 then ⟨nullV, 9⟩
  else if k = 4 then ⟨yesV (v.n == 0), 0⟩ else numR (fitN (-v.n))
def knownN (v : Vl) : Rs := if rightN v ≠ 0 then ⟨nullV, 4⟩ else ⟨v, 0⟩

/-! ### small ones -/
theorem s25 (n : Nat) (a e : Int) : pcall C (n + 1) 25 [vI a, vI e] = some ([vV (numR (a, e)).v.k (numR (a, e)).v.n (numR (a, e)).v.t, vI (numR (a, e)).e], []) := by
  rw [pcall_step (by rfl), f25_eval_num_eq]
  unfold f25_eval_num
  by_cases h : e = 0 <;> simp [h, numR, numV, nullV]
theorem s31 (n : Nat) (a : Int) : pcall C (n + 1) 31 [vI a] = some ([vV 1 a []], []) := by
  rw [pcall_step (by rfl), f31_vestryref13_Num_eq]
  rfl
theorem s42 (n : Nat) (b : Bool) : pcall C (n + 2) 42 [vB b] = some ([vV 1 (bitN b) [], vI 0], []) := by
  rw [pcall_step (by rfl), f42_eval_yes_eq]
  unfold f42_eval_yes
  cases b <;> simp [s25, numR, numV]
theorem s44 (n : Nat) (b : Bool) : pcall C (n + 2) 44 [vB b] = some ([vV 1 (bitN b) []], []) := by
  rw [pcall_step (by rfl), f44_vestryref13_yes_eq]
  unfold f44_vestryref13_yes
  cases b <;> simp [s31]
theorem s36 (n : Nat) (k m : Int) (t : List UInt8) : pcall C (n + 1) 36 [vV k m t] = some ([vB (holdsN ⟨k, m, t⟩)], []) := by
  rw [pcall_step (by rfl), f36_eval_holds_eq]
  unfold f36_eval_holds
  by_cases h : k = 1 <;> simp [h, holdsN]
theorem s39 (n : Nat) (k m : Int) (t : List UInt8) : pcall C (n + 1) 39 [vV k m t] = some ([vB (holdsN ⟨k, m, t⟩)], []) := by
  rw [pcall_step (by rfl), f39_vestryref13_holds_eq]
  unfold f39_vestryref13_holds
  by_cases h : k = 1 <;> simp [h, holdsN]
theorem s40 (n : Nat) (k m : Int) (t : List UInt8) : pcall C (n + 1) 40 [vV k m t] = some ([vB (k == 1 && m == 0)], []) := by
  rw [pcall_step (by rfl), f40_eval_fails_eq]
  unfold f40_eval_fails
  by_cases h : k = 1 <;> simp [h]
theorem s27 (n : Nat) (k m : Int) (t : List UInt8) : pcall C (n + 1) 27 [vV k m t] = some ([vI (rightN ⟨k, m, t⟩)], []) := by
  rw [pcall_step (by rfl), f27_vestryref07_Right_eq]
  unfold f27_vestryref07_Right
  by_cases h1 : k < 0 <;> by_cases h2 : k > 2 <;> by_cases h3 : k = 1 <;> by_cases h4 : k = 2 <;> by_cases h5 : m = 0 <;> by_cases h6 : t = [] <;> by_cases h7 : t.length > 40 <;> first | omega | (simp [h1, h2, h3, h4, h5, h6, h7, rightN]; done) | (simp [h1, h2, h3, h4, h5, h6, h7, rightN]; omega)
theorem s32 (n : Nat) (k m : Int) (t : List UInt8) : pcall C (n + 1) 32 [vV k m t] = some ([vV k (if k = 0 ∨ k = 2 then 0 else m) (if k = 0 ∨ k = 1 then [] else t)], []) := by
  rw [pcall_step (by rfl), f32_value_bare_eq]
  unfold f32_value_bare
  by_cases h0 : k = 0
  · simp [h0]
  by_cases h1 : k = 1
  · simp [h1]
  by_cases h2 : k = 2
  · simp [h2]
  simp [h0, h1, h2]
theorem s11 (n : Nat) (k m : Int) (t : List UInt8) : pcall C (n + 2) 11 [vV k m t] = some ([vI (rightN ⟨k, m, t⟩)], []) := by
  rw [pcall_step (by rfl), f11_value_Right_eq]
  unfold f11_value_Right
  by_cases h1 : k < 0
  · simp [h1, rightN]
  by_cases h2 : k > 2
  · simp [h1, h2, rightN]
  simp only [s32, rightN]
  have h : k = 0 ∨ k = 1 ∨ k = 2 := by omega
  rcases h with h | h | h <;> subst h <;> by_cases h5 : m = 0 <;> by_cases h6 : t = [] <;> by_cases h7 : t.length > 40 <;> simp [h5, h6, h7]
  all_goals omega
end Go.Proofs.Ytdmigcfokjobaaa

open Go Go.Ev

set_option linter.unusedSimpArgs false

set_option linter.unusedVariables false

namespace Go.Proofs.Ytdmigcfokjobaaa

/-! ### products -/
theorem mask32 (a : Nat) (ha : a < 18446744073709551616) : ((BitVec.toNat ((BitVec.ofInt (IntKind.bits .u64) (a : Int)) &&& (BitVec.ofInt (IntKind.bits .u64) (4294967295 : Int))) : Nat) : Int) = ((a % 4294967296 : Nat) : Int) := by
  have e : a &&& 4294967295 = a % 4294967296 := Nat.and_two_pow_sub_one_eq_mod a 32
  have h1 : (BitVec.ofInt (IntKind.bits .u64) (a : Int)).toNat = a := by
    show (BitVec.ofInt 64 (a : Int)).toNat = a
    rw [BitVec.toNat_ofInt]
    omega
  have h2 : (BitVec.ofInt (IntKind.bits .u64) (4294967295 : Int)).toNat = 4294967295 := by decide
  rw [BitVec.toNat_and, h1, h2, e]
theorem div32 (a : Nat) : Int.fdiv (a : Int) ((2 : Int) ^ (min 32 (IntKind.bits .u64))) = ((a / 4294967296 : Nat) : Int) := by
  have : ((2 : Int) ^ (min 32 (IntKind.bits .u64))) = 4294967296 := by decide
  rw [this, Int.fdiv_eq_ediv_of_nonneg _ (by omega)]
  omega
theorem s50 (n : Nat) (x y : Nat) (hx : x < 18446744073709551616) (hy : y < 18446744073709551616) : pcall C (n + 1) 50 [vU x, vU y] = some ([vU ((x * y / 18446744073709551616 : Nat) : Int), vU ((x * y % 18446744073709551616 : Nat) : Int)], []) := by
  obtain ⟨bd, bt, bw, hhi⟩ := Lib.mul64_hi x y hx hy
  have ba := Lib.half_mul_le (a := x / 4294967296) (b := y / 4294967296) (by omega) (by omega)
  have bb := Lib.half_mul_le (a := x / 4294967296) (b := y % 4294967296) (by omega) (by omega)
  have bc := Lib.half_mul_le (a := x % 4294967296) (b := y / 4294967296) (by omega) (by omega)
  have ba' : x / 4294967296 * (y / 4294967296) < 18446744073709551616 := by omega
  have bb' : x / 4294967296 * (y % 4294967296) < 18446744073709551616 := by omega
  have bc' : x % 4294967296 * (y / 4294967296) < 18446744073709551616 := by omega
  have bh1 : x / 4294967296 * (y / 4294967296) + (x / 4294967296 * (y % 4294967296) + x % 4294967296 * (y % 4294967296) / 4294967296) / 4294967296 < 18446744073709551616 := by omega
  have bh : x / 4294967296 * (y / 4294967296) + (x / 4294967296 * (y % 4294967296) + x % 4294967296 * (y % 4294967296) / 4294967296) / 4294967296 + ((x / 4294967296 * (y % 4294967296) + x % 4294967296 * (y % 4294967296) / 4294967296) % 4294967296 + x % 4294967296 * (y / 4294967296)) / 4294967296 < 18446744073709551616 := by
    rw [hhi]
    have := Nat.mul_lt_mul'' hx hy
    omega
  rw [pcall_step (by rfl), f50_bits_Mul64_eq]
  unfold f50_bits_Mul64
  have m1 : x % 4294967296 < 18446744073709551616 := by omega
  have m2 : y % 4294967296 < 18446744073709551616 := by omega
  have m3 : (x / 4294967296 * (y % 4294967296) + x % 4294967296 * (y % 4294967296) / 4294967296) % 4294967296 < 18446744073709551616 := by omega
  simp only [mask32 x hx, mask32 y hy, div32, Mul64.wrapN _ m3, Mul64.mulN, Mul64.addN, Mul64.wrapN _ m1, Mul64.wrapN _ m2, Mul64.wrapN _ bd, Mul64.wrapN _ bb', Mul64.wrapN _ bt, mask32 _ bt, Mul64.wrapN _ bc', Mul64.wrapN _ bw, Mul64.wrapN _ ba', Mul64.wrapN _ bh1, Mul64.wrapN _ bh, Mul64.wrapM (x * y)]
  rw [hhi]
theorem s51 (n : Nat) (a : Int) (h : inI a) : pcall C (n + 1) 51 [vI a] = some ([vU (a.natAbs : Int)], []) := by
  rw [pcall_step (by rfl), f51_eval_size_eq]
  unfold f51_eval_size
  unfold inI at h
  by_cases h1 : a < 0
  · simp only [h1, decide_true, ifB_eq, if_true, IntKind.wrap_u64]
    have : ((0 : Int) - a % 18446744073709551616) % 18446744073709551616 = (a.natAbs : Int) := by omega
    rw [this]
  · simp only [h1, decide_false, ifB_eq, IntKind.wrap_u64]
    have : a % 18446744073709551616 = (a.natAbs : Int) := by omega
    simp [this]
theorem mul_abs (a b : Int) : (a * b = ((a.natAbs * b.natAbs : Nat) : Int) ∧ ((decide (a < 0) == decide (b < 0)) = true ∨ a * b = 0)) ∨ (a * b = -((a.natAbs * b.natAbs : Nat) : Int) ∧ ((decide (a < 0) == decide (b < 0)) = false ∨ a * b = 0)) := by
  by_cases h1 : a < 0 <;> by_cases h2 : b < 0
  · refine .inl ⟨?_, .inl (by simp [h1, h2])⟩
    have e1 : a = -(a.natAbs : Int) := by omega
    have e2 : b = -(b.natAbs : Int) := by omega
    conv => lhs; rw [e1, e2]
    rw [Int.neg_mul_neg, Int.natCast_mul]
  · refine .inr ⟨?_, .inl (by simp [h1, h2])⟩
    have e1 : a = -(a.natAbs : Int) := by omega
    have e2 : b = (b.natAbs : Int) := by omega
    conv => lhs; rw [e1, e2]
    rw [Int.neg_mul, Int.natCast_mul]
  · refine .inr ⟨?_, .inl (by simp [h1, h2])⟩
    have e1 : a = (a.natAbs : Int) := by omega
    have e2 : b = -(b.natAbs : Int) := by omega
    conv => lhs; rw [e1, e2]
    rw [Int.mul_neg, Int.natCast_mul]
  · refine .inl ⟨?_, .inl (by simp [h1, h2])⟩
    have e1 : a = (a.natAbs : Int) := by omega
    have e2 : b = (b.natAbs : Int) := by omega
    conv => lhs; rw [e1, e2]
    rw [Int.natCast_mul]
theorem s43 (n : Nat) (a b : Int) (ha : inI a) (hb : inI b) : pcall C (n + 2) 43 [vI a, vI b] = some ([vI (fitN (a * b)).1, vI (fitN (a * b)).2], []) := by
  have la : a.natAbs < 18446744073709551616 := by unfold inI at ha; omega
  have lb : b.natAbs < 18446744073709551616 := by unfold inI at hb; omega
  rw [pcall_step (by rfl), f43_eval_times_eq]
  unfold f43_eval_times
  simp only [s51 _ _ ha, s51 _ _ hb, callB_some, ok65, needB_true, List.headD_cons, List.tail_cons, fvF, pvF, toI_int, s50 _ _ _ la lb, ok6565, ifB_eq]
  have key := mul_abs a b
  generalize hp : a.natAbs * b.natAbs = p at key ⊢
  generalize hm : a * b = m at key ⊢
  unfold fitN
  generalize (decide (a < 0) == decide (b < 0)) = s at key ⊢
  have hw : inI m → IntKind.wrap .i64 m = m := wrap_in
  unfold inI at hw ⊢
  by_cases c1 : ((p / 18446744073709551616 : Nat) : Int) > 0
  · have : ¬ (-9223372036854775808 ≤ m ∧ m ≤ 9223372036854775807) := by omega
    simp only [c1, this, decide_true, if_true, if_false]
  · by_cases c2 : ((p % 18446744073709551616 : Nat) : Int) > 9223372036854775808
    · have : ¬ (-9223372036854775808 ≤ m ∧ m ≤ 9223372036854775807) := by omega
      simp only [c1, c2, this]
      simp
    · have c1' : p < 18446744073709551616 := by omega
      have c2' : p ≤ 9223372036854775808 := by omega
      have hpm : p % 18446744073709551616 = p := by omega
      simp only [c1, c2, decide_false]
      simp only [hpm]
      by_cases c3 : p = 9223372036854775808
      · subst c3
        cases s with
        | true =>
          have : m = 9223372036854775808 := by
            rcases key with ⟨k1, k2⟩ | ⟨k1, k2⟩
            · omega
            · rcases k2 with k2 | k2
              · cases k2
              · omega
          subst this
          simp
        | false =>
          have : m = -9223372036854775808 := by
            rcases key with ⟨k1, k2⟩ | ⟨k1, k2⟩
            · rcases k2 with k2 | k2
              · cases k2
              · omega
            · omega
          subst this
          simp [IntKind.wrap_i64]
      · have c3' : ¬ ((p : Int) = 9223372036854775808) := by omega
        have : (-9223372036854775808 ≤ m ∧ m ≤ 9223372036854775807) := by omega
        simp [c3', this, hw this]
end Go.Proofs.Ytdmigcfokjobaaa

open Go Go.Ev

set_option linter.unusedSimpArgs false

set_option linter.unusedVariables false

namespace Go.Proofs.Ytdmigcfokjobaaa

theorem mx_abs (a : Int) (h : -9223372036854775808 < a) (h' : a ≤ 9223372036854775807) : mxI a (IntKind.wrap .i64 ((0 : Int) - a)) = (a.natAbs : Int) := by
  rw [IntKind.wrap_i64]
  unfold mxI
  split <;> omega
theorem tdivN (y : Nat) (hy : 0 < y) : IntKind.wrap .i64 (Int.tdiv (9223372036854775807 : Int) (y : Int)) = ((9223372036854775807 / y : Nat) : Int) := by
  have e : Int.tdiv (9223372036854775807 : Int) (y : Int) = ((9223372036854775807 / y : Nat) : Int) := rfl
  rw [e, IntKind.wrap_i64]
  have : 9223372036854775807 / y ≤ 9223372036854775807 := Nat.div_le_self _ _
  generalize 9223372036854775807 / y = q at this ⊢
  omega
theorem s46 (n : Nat) (a b : Int) (ha : inI a) (hb : inI b) : pcall C (n + 1) 46 [vI a, vI b] = some ([vI (if inI (a * b) then a * b else -9223372036854775808), vB (decide (inI (a * b)))], []) := by
  rw [pcall_step (by rfl), f46_vestryref13_times_eq]
  unfold f46_vestryref13_times
  by_cases a0 : a = 0
  · simp [a0, inI]
  by_cases b0 : b = 0
  · simp [a0, b0, inI]
  by_cases am : a = -9223372036854775808
  · subst am
    by_cases b1 : b = 1
    · subst b1; simp [inI]
    · have : ¬ inI (-9223372036854775808 * b) := by unfold inI at hb ⊢; omega
      simp [b0, b1, this]
  by_cases bm : b = -9223372036854775808
  · subst bm
    by_cases a1 : a = 1
    · subst a1; simp [inI]
    · have : ¬ inI (a * -9223372036854775808) := by unfold inI at ha ⊢; omega
      simp [a0, a1, am, this]
  unfold inI at ha hb
  have ea := mx_abs a (by omega) (by omega)
  have eb := mx_abs b (by omega) (by omega)
  have y0 : 0 < b.natAbs := by omega
  have x0 : 0 < a.natAbs := by omega
  have key := mul_abs a b
  simp only [a0, b0, am, bm, ea, eb, tdivN _ y0, ifB_eq, beq_iff_eq, if_false]
  have hx : a.natAbs ≤ 9223372036854775807 := by omega
  have hy : b.natAbs ≤ 9223372036854775807 := by omega
  have pm : ((a.natAbs : Int) * (b.natAbs : Int)) = ((a.natAbs * b.natAbs : Nat) : Int) := (Int.natCast_mul _ _).symm
  rw [pm]
  have d1 : 9223372036854775807 / b.natAbs < a.natAbs ↔ 9223372036854775807 < a.natAbs * b.natAbs := Nat.div_lt_iff_lt_mul y0
  have d2 : a.natAbs = 9223372036854775807 / b.natAbs + 1 → a.natAbs * b.natAbs ≤ 9223372036854775807 + b.natAbs := by
    intro h
    rw [h, Nat.add_mul]
    have := Nat.div_mul_le_self 9223372036854775807 b.natAbs
    omega
  have d3 : a.natAbs * b.natAbs = 9223372036854775808 → a.natAbs = 9223372036854775807 / b.natAbs + 1 := by
    intro h
    have h1 : 9223372036854775807 / b.natAbs < a.natAbs := d1.2 (by omega)
    have h2 : a.natAbs - 1 ≤ 9223372036854775807 / b.natAbs := by
      rw [Nat.le_div_iff_mul_le y0, Nat.sub_mul]
      omega
    omega
  have m0 : a * b ≠ 0 := Int.mul_ne_zero a0 b0
  have dl : 9223372036854775807 / b.natAbs ≤ 9223372036854775807 := Nat.div_le_self _ _
  generalize a.natAbs * b.natAbs = p at key pm d1 d2 d3 ⊢
  generalize a * b = m at key m0 ⊢
  generalize 9223372036854775807 / b.natAbs = q at d1 d2 d3 dl ⊢
  generalize (decide (a < 0) == decide (b < 0)) = s at key ⊢
  have hw : inI m → IntKind.wrap .i64 m = m := wrap_in
  have yne : ((b.natAbs : Nat) : Int) ≠ 0 := by omega
  simp only [show (((b.natAbs : Nat) : Int) != 0) = true by simp [b0], needB_true]
  by_cases c1 : ((a.natAbs : Nat) : Int) > (q : Int)
  · have p1 := d1.1 (by omega)
    simp only [c1, decide_true, if_true]
    cases s with
    | true =>
      have : ¬ inI m := by unfold inI; simp at key; omega
      simp [this]
    | false =>
      simp only [Bool.not_false, if_true]
      have ew : IntKind.wrap .i64 ((q : Int) + 1) = (if q = 9223372036854775807 then -9223372036854775808 else (q : Int) + 1) := by rw [IntKind.wrap_i64]; split <;> omega
      by_cases c2 : a.natAbs = q + 1
      · have p2 := d2 c2
        have : ((a.natAbs : Nat) : Int) = IntKind.wrap .i64 ((q : Int) + 1) := by rw [ew]; split <;> omega
        have e3 : (IntKind.wrap .i64 (p : Int) = -9223372036854775808) ↔ inI m := by rw [IntKind.wrap_i64]; unfold inI; simp at key; omega
        simp only [← this, if_true]
        by_cases c3 : inI m
        · have c4 := e3.2 c3
          have : m = -9223372036854775808 := by unfold inI at c3; simp at key; omega
          subst this
          simp [c4, inI]
        · have : ¬ (IntKind.wrap .i64 (p : Int) = -9223372036854775808) := fun h => c3 (e3.1 h)
          simp [c3, this]
      · have n1 : ¬ ((a.natAbs : Nat) : Int) = IntKind.wrap .i64 ((q : Int) + 1) := by rw [ew]; split <;> omega
        have n2 : ¬ inI m := by
          intro h
          unfold inI at h
          simp at key
          exact c2 (d3 (by omega))
        simp [n1, n2]
  · have p1 : p ≤ 9223372036854775807 := by
      have := mt d1.2 (by omega)
      omega
    have : inI m := by
      unfold inI
      rcases key with ⟨k1, _⟩ | ⟨k1, _⟩ <;> omega
    simp only [c1, decide_false]
    simp [this, hw this]

theorem tdiv_fit (a b : Int) (ha : inI a) (hb : b ≠ 0) : (a = -9223372036854775808 ∧ b = -1) ∨ inI (Int.tdiv a b) := by
  have h : (Int.tdiv a b).natAbs = a.natAbs / b.natAbs := Int.natAbs_tdiv a b
  have h2 : a.natAbs / b.natAbs ≤ a.natAbs := Nat.div_le_self _ _
  unfold inI at ha ⊢
  by_cases h3 : b.natAbs = 1
  · have : b = 1 ∨ b = -1 := by omega
    rcases this with rfl | rfl
    · rw [Int.tdiv_one]; omega
    · rw [Int.tdiv_neg, Int.tdiv_one]; omega
  · right
    have h4 : a.natAbs / b.natAbs ≤ a.natAbs / 2 := Nat.div_le_div_left (by omega) (by omega)
    have : a.natAbs / 2 ≤ 4611686018427387904 := by omega
    omega
theorem s26 (n : Nat) (o a b : Int) (ha : inI a) (hb : inI b) (ho : 9 ≤ o ∧ o ≤ 13) : pcall C (n + 3) 26 [vI o, vI a, vI b] = some ([vI (sumsN o a b).1, vI (sumsN o a b).2], []) := by
  rw [pcall_step (by rfl), f26_eval_reckon_eq]
  unfold f26_eval_reckon
  have cs : o = 9 ∨ o = 10 ∨ o = 11 ∨ o = 12 ∨ o = 13 := by omega
  rcases cs with rfl | rfl | rfl | rfl | rfl
  · simp only [sumsN, fitN]
    by_cases h : inI (a + b)
    · have : (decide (IntKind.wrap .i64 (a + b) > a) == decide (b > 0)) = true := by
        rw [wrap_in h]
        by_cases h2 : b > 0
        · simp [h2]; omega
        · simp [h2]; omega
      rw [wrap_in h] at this ⊢
      simp only [ifB_eq, if_true, this, h, beq_self_eq_true]
    · have : (decide (IntKind.wrap .i64 (a + b) > a) == decide (b > 0)) = false := by
        rw [IntKind.wrap_i64]
        unfold inI at h ha hb
        by_cases h2 : b > 0
        · simp [h2]; omega
        · simp [h2]; omega
      simp only [beq_self_eq_true, ifB_eq, if_true, this, h]
      simp
  · simp only [sumsN, fitN]
    by_cases h : inI (a - b)
    · have : (decide (IntKind.wrap .i64 (a - b) < a) == decide (b > 0)) = true := by
        rw [wrap_in h]
        by_cases h2 : b > 0
        · simp [h2]; omega
        · simp [h2]; omega
      rw [wrap_in h] at this ⊢
      simp only [ifB_eq, this, h]
      simp
    · have : (decide (IntKind.wrap .i64 (a - b) < a) == decide (b > 0)) = false := by
        rw [IntKind.wrap_i64]
        unfold inI at h ha hb
        by_cases h2 : b > 0
        · simp [h2]; omega
        · simp [h2]; omega
      simp only [ifB_eq, if_true, this, h]
      simp
  · simp [sumsN, s43 _ a b ha hb]
  · by_cases h0 : b = 0
    · simp [sumsN, h0]
    · have h := tdiv_fit a b ha h0
      have hb0 : (b != 0) = true := by simp [h0]
      by_cases h1 : a = -9223372036854775808
      · by_cases h2 : b = -1
        · subst h1; subst h2; simp [sumsN, fitN, inI]
        · have h3 : inI (Int.tdiv a b) := by rcases h with h | h; exact absurd h.2 h2; exact h
          have w := wrap_in h3
          simp only [sumsN, fitN, h0, h3, w, h2, hb0, needB_true, ifB_eq]
          simp [h0, h2]
      · have h3 : inI (Int.tdiv a b) := by rcases h with h | h; exact absurd h.1 h1; exact h
        simp [sumsN, fitN, h0, h1, h3, hb0, wrap_in h3]
  · by_cases h0 : b = 0
    · simp [sumsN, h0]
    · have hb0 : (b != 0) = true := by simp [h0]
      simp [sumsN, h0, hb0]
theorem s30 (n : Nat) (o a b : Int) (ha : inI a) (hb : inI b) (ho : 9 ≤ o ∧ o ≤ 13) : pcall C (n + 2) 30 [vI o, vI a, vI b] = some ([vI (sumsN o a b).1, vI (sumsN o a b).2], []) := by
  rw [pcall_step (by rfl), f30_vestryref13_sums_eq]
  unfold f30_vestryref13_sums
  have cs : o = 9 ∨ o = 10 ∨ o = 11 ∨ o = 12 ∨ o = 13 := by omega
  rcases cs with rfl | rfl | rfl | rfl | rfl
  · simp only [sumsN, fitN]
    by_cases h : inI (a + b)
    · have w := wrap_in h
      unfold inI at h ha hb
      by_cases h2 : b > 0
      · have e1 : ¬ (a > IntKind.wrap .i64 (9223372036854775807 - b)) := by rw [IntKind.wrap_i64]; omega
        have e2 : ¬ (b < 0) := by omega
        simp only [h2, e1, e2, w, decide_true, decide_false, ifB_eq]
        simp [inI, h]
      · by_cases h3 : b < 0
        · have e1 : ¬ (a < IntKind.wrap .i64 (-9223372036854775808 - b)) := by rw [IntKind.wrap_i64]; omega
          simp only [h2, e1, h3, w, decide_true, decide_false, ifB_eq]
          simp [inI, h]
        · simp only [h2, h3, w, decide_false, ifB_eq]
          simp [inI, h]
    · unfold inI at ha hb
      by_cases h2 : b > 0
      · have e1 : (a > IntKind.wrap .i64 (9223372036854775807 - b)) := by rw [IntKind.wrap_i64]; unfold inI at h; omega
        simp only [h2, e1, decide_true, ifB_eq]
        simp [h]
      · by_cases h3 : b < 0
        · have e1 : (a < IntKind.wrap .i64 (-9223372036854775808 - b)) := by rw [IntKind.wrap_i64]; unfold inI at h; omega
          simp only [h2, e1, h3, decide_true, decide_false, ifB_eq]
          simp [h]
        · exact absurd (by unfold inI; omega) h
  · simp only [sumsN, fitN]
    by_cases h : inI (a - b)
    · have w := wrap_in h
      unfold inI at h ha hb
      by_cases h2 : b > 0
      · have e1 : ¬ (a < IntKind.wrap .i64 (-9223372036854775808 + b)) := by rw [IntKind.wrap_i64]; omega
        have e2 : ¬ (b < 0) := by omega
        simp only [h2, e1, e2, w, decide_true, decide_false, ifB_eq]
        simp [inI, h]
      · by_cases h3 : b < 0
        · have e1 : ¬ (a > IntKind.wrap .i64 (9223372036854775807 + b)) := by rw [IntKind.wrap_i64]; omega
          simp only [h2, e1, h3, w, decide_true, decide_false, ifB_eq]
          simp [inI, h]
        · simp only [h2, h3, w, decide_false, ifB_eq]
          simp [inI, h]
    · unfold inI at ha hb
      by_cases h2 : b > 0
      · have e1 : (a < IntKind.wrap .i64 (-9223372036854775808 + b)) := by rw [IntKind.wrap_i64]; unfold inI at h; omega
        simp only [h2, e1, decide_true, ifB_eq]
        simp [h]
      · by_cases h3 : b < 0
        · have e1 : (a > IntKind.wrap .i64 (9223372036854775807 + b)) := by rw [IntKind.wrap_i64]; unfold inI at h; omega
          simp only [h2, e1, h3, decide_true, decide_false, ifB_eq]
          simp [h]
        · exact absurd (by unfold inI; omega) h
  · simp only [sumsN, fitN, s46 _ a b ha hb]
    by_cases h : inI (a * b) <;> simp [h]
  · by_cases h0 : b = 0
    · simp [sumsN, h0]
    · have h := tdiv_fit a b ha h0
      have hb0 : (b != 0) = true := by simp [h0]
      by_cases h2 : b = -1
      · subst h2
        by_cases h1 : a = -9223372036854775808
        · subst h1; simp [sumsN, fitN, inI]
        · have h3 : inI (Int.tdiv a (-1)) := by rcases h with h | h; exact absurd h.1 h1; exact h
          have : IntKind.wrap .i64 (0 - a) = Int.tdiv a (-1) := by
            rw [Int.tdiv_neg, Int.tdiv_one, IntKind.wrap_i64]; unfold inI at ha; omega
          rw [this]
          simp only [sumsN, fitN, h1, h3, ifB_eq]
          simp [h1]
      · have h3 : inI (Int.tdiv a b) := by rcases h with h | h; exact absurd h.2 h2; exact h
        simp [sumsN, fitN, h0, h2, h3, hb0, wrap_in h3]
  · by_cases h0 : b = 0
    · simp [sumsN, h0]
    · have hb0 : (b != 0) = true := by simp [h0]
      by_cases h2 : b = -1
      · subst h2
        simp [sumsN]
      · simp [sumsN, h0, hb0, h2]
end Go.Proofs.Ytdmigcfokjobaaa

open Go Go.Ev

set_option linter.unusedSimpArgs false

set_option linter.unusedVariables false

set_option maxHeartbeats 1000000

namespace Go.Proofs.Ytdmigcfokjobaaa

theorem compareBytes_self : ∀ a : List UInt8, Lib.compareBytes a a = 0
  | [] => rfl
  | x :: a => by
    have : ¬ x < x := UInt8.lt_irrefl x
    simp only [Lib.compareBytes, this, if_false]
    exact compareBytes_self a
theorem compareBytes_eq : ∀ a b : List UInt8, Lib.compareBytes a b = if a = b then 0 else if Op.bytesLess a b then -1 else 1
  | [], [] => rfl
  | [], _ :: _ => rfl
  | _ :: _, [] => rfl
  | x :: a, y :: b => by
    simp only [Lib.compareBytes, Op.bytesLess]
    by_cases h1 : x < y
    · have : x ≠ y := fun h => UInt8.lt_irrefl y (h ▸ h1)
      simp [h1, this]
    · by_cases h2 : y < x
      · have : x ≠ y := fun h => UInt8.lt_irrefl y (h ▸ h2)
        simp [h1, h2, this]
      · have : x = y := UInt8.le_antisymm (UInt8.not_lt.1 h2) (UInt8.not_lt.1 h1)
        subst this
        simp only [h1, if_false, compareBytes_eq a b]
        simp
theorem s49 (n : Nat) (a b : List UInt8) : pcall C (n + 1) 49 [.flat (.val (.str a)), .flat (.val (.str b))] = some ([vI (Lib.compareBytes a b)], []) := rfl
theorem s52 (n : Nat) (a : Int) : pcall C (n + 1) 52 [vI a] = some ([vB false], []) := by
  rw [pcall_step (by rfl), f52_cmp_isNaN_int_eq]
  unfold f52_cmp_isNaN_int
  simp
theorem s48 (n : Nat) (a b : Int) : pcall C (n + 2) 48 [vI a, vI b] = some ([vI (if a < b then -1 else if b < a then 1 else 0)], []) := by
  rw [pcall_step (by rfl), f48_cmp_Compare_int_eq]
  unfold f48_cmp_Compare_int
  simp only [s52, callB_some, ok4, needB_true, List.headD_cons, fvF, pvF, toB_bool, ifB_eq]
  by_cases h : a < b
  · simp [h]
  by_cases h' : b < a <;> simp [h, h']
theorem s47 (n : Nat) (x y z : Int) : pcall C (n + 6) 47 [.flat (.val (.sl none [.int .i64 x, .int .i64 y, .int .i64 z]))] = some ([vI (if x ≠ 0 then x else if y ≠ 0 then y else z)], []) := by
  rw [pcall_step (by rfl), f47_cmp_Or_int_eq]
  unfold f47_cmp_Or_int f47_cmp_Or_int.pre
  have w1 : IntKind.wrap .i64 (0 + 1) = 1 := by decide
  have w2 : IntKind.wrap .i64 (1 + 1) = 2 := by decide
  have w3 : IntKind.wrap .i64 (2 + 1) = 3 := by decide
  have z0 : (0 : Int).toNat = 0 := rfl
  have z1 : (1 : Int).toNat = 1 := rfl
  have z2 : (2 : Int).toNat = 2 := rfl
  simp only [f47_cmp_Or_int.l0, f47_cmp_Or_int.l0.step, w1, w2, w3, z0, z1, z2, nthP, List.getD_cons_zero, List.getD_cons_succ, List.length_cons, List.length_nil, hasT3, toI_int]
  by_cases hx : x = 0
  · by_cases hy : y = 0
    · by_cases hz : z = 0 <;> simp [hx, hy, hz]
    · simp [hx, hy]
  · simp [hx]
theorem s41 (n : Nat) (k1 n1 : Int) (t1 : List UInt8) (k2 n2 : Int) (t2 : List UInt8) : pcall C (n + 7) 41 [vV k1 n1 t1, vV k2 n2 t2] = some ([vI (cmpN ⟨k1, n1, t1⟩ ⟨k2, n2, t2⟩)], []) := by
  rw [pcall_step (by rfl), f41_value_Compare_eq]
  unfold f41_value_Compare
  simp only [s48, s49, s47, callB_some, ok3, needB_true, List.headD_cons, fvF, pvF, toI_int, cmpN]
  by_cases h : k1 < k2
  · simp [h]
  by_cases h' : k2 < k1
  · simp [h, h']
  by_cases h3 : n1 < n2
  · simp [h, h', h3]
  by_cases h4 : n2 < n1
  · simp [h, h', h3, h4]
  simp [h, h', h3, h4]
theorem s45 (n : Nat) (k1 n1 : Int) (t1 : List UInt8) (k2 n2 : Int) (t2 : List UInt8) : pcall C (n + 1) 45 [vV k1 n1 t1, vV k2 n2 t2] = some ([vI (cmpN ⟨k1, n1, t1⟩ ⟨k2, n2, t2⟩)], []) := by
  rw [pcall_step (by rfl), f45_vestryref07_Compare_eq]
  unfold f45_vestryref07_Compare
  simp only [cmpN, compareBytes_eq]
  by_cases h : k1 < k2
  · have : k1 ≠ k2 := by omega
    simp [h, this]
  by_cases h' : k2 < k1
  · have : k1 ≠ k2 := by omega
    simp [h, h', this]
  have e1 : k1 = k2 := by omega
  by_cases h3 : n1 < n2
  · have : n1 ≠ n2 := by omega
    simp [h3, this, e1]
  by_cases h4 : n2 < n1
  · have : n1 ≠ n2 := by omega
    simp [h3, h4, this, e1]
  have e2 : n1 = n2 := by omega
  subst e1 e2
  by_cases h5 : t1 = t2
  · simp [h5]
  · by_cases h6 : Op.bytesLess t1 t2 <;> simp [h5, h6]
theorem s23 (n : Nat) (o k1 n1 : Int) (t1 : List UInt8) (k2 n2 : Int) (t2 : List UInt8) (ho : o = 1 ∨ o = 2) (h1 : 0 ≤ k1 ∧ k1 ≤ 2) (h2 : 0 ≤ k2 ∧ k2 ≤ 2) : pcall C (n + 2) 23 [vI o, vV k1 n1 t1, vV k2 n2 t2] = some ([vV (bothN o ⟨k1, n1, t1⟩ ⟨k2, n2, t2⟩).v.k (bothN o ⟨k1, n1, t1⟩ ⟨k2, n2, t2⟩).v.n (bothN o ⟨k1, n1, t1⟩ ⟨k2, n2, t2⟩).v.t, vI (bothN o ⟨k1, n1, t1⟩ ⟨k2, n2, t2⟩).e], []) := by
  rw [pcall_step (by rfl), f23_eval_logic_eq]
  unfold f23_eval_logic
  have c1 : k1 = 0 ∨ k1 = 1 ∨ k1 = 2 := by omega
  have c2 : k2 = 0 ∨ k2 = 1 ∨ k2 = 2 := by omega
  rcases ho with rfl | rfl <;> rcases c1 with rfl | rfl | rfl <;> rcases c2 with rfl | rfl | rfl <;> by_cases a0 : n1 = 0 <;> by_cases b0 : n2 = 0 <;> simp [s36, s40, bothN, holdsN, nullV, numV, a0, b0]
theorem bneI (n : Int) : (n != 0) = !decide (n = 0) := by
  by_cases h : n = 0 <;> simp [h]
theorem s28 (n : Nat) (o k1 n1 : Int) (t1 : List UInt8) (k2 n2 : Int) (t2 : List UInt8) (ho : o = 1 ∨ o = 2) (h1 : 0 ≤ k1 ∧ k1 ≤ 2) (h2 : 0 ≤ k2 ∧ k2 ≤ 2) : pcall C (n + 3) 28 [vI o, vV k1 n1 t1, vV k2 n2 t2] = some ([vV (bothN o ⟨k1, n1, t1⟩ ⟨k2, n2, t2⟩).v.k (bothN o ⟨k1, n1, t1⟩ ⟨k2, n2, t2⟩).v.n (bothN o ⟨k1, n1, t1⟩ ⟨k2, n2, t2⟩).v.t, vI (bothN o ⟨k1, n1, t1⟩ ⟨k2, n2, t2⟩).e], []) := by
  rw [pcall_step (by rfl), f28_vestryref13_both_eq]
  unfold f28_vestryref13_both
  have c1 : k1 = 0 ∨ k1 = 1 ∨ k1 = 2 := by omega
  have c2 : k2 = 0 ∨ k2 = 1 ∨ k2 = 2 := by omega
  rcases ho with rfl | rfl <;> rcases c1 with rfl | rfl | rfl <;> rcases c2 with rfl | rfl | rfl <;> by_cases a0 : n1 = 0 <;> by_cases b0 : n2 = 0 <;> simp [s39, s44, bothN, holdsN, nullV, numV, a0, b0, bneI]
theorem s24 (n : Nat) (o k1 n1 : Int) (t1 : List UInt8) (k2 n2 : Int) (t2 : List UInt8) (ho : 3 ≤ o ∧ o ≤ 8) : pcall C (n + 8) 24 [vI o, vV k1 n1 t1, vV k2 n2 t2] = some (if k1 ≠ k2 then [vV 0 0 [], vI 9] else [vV (testN o ⟨k1, n1, t1⟩ ⟨k2, n2, t2⟩).k (testN o ⟨k1, n1, t1⟩ ⟨k2, n2, t2⟩).n (testN o ⟨k1, n1, t1⟩ ⟨k2, n2, t2⟩).t, vI 0], []) := by
  rw [pcall_step (by rfl), f24_eval_test_eq]
  unfold f24_eval_test
  simp only [s41, callB_some, ok3, needB_true, List.headD_cons, fvF, pvF, toI_int, testN]
  by_cases hk : k1 = k2
  · subst hk
    generalize cmpN ⟨k1, n1, t1⟩ ⟨k1, n2, t2⟩ = c
    have cs : o = 3 ∨ o = 4 ∨ o = 5 ∨ o = 6 ∨ o = 7 ∨ o = 8 := by omega
    rcases cs with rfl | rfl | rfl | rfl | rfl | rfl
    · simp [s42, yesV]; try rfl
    · simp [s42, yesV]; try rfl
    · simp [s42, yesV]; try rfl
    · by_cases h0 : c = 0
      · simp [s42, yesV, h0]; try rfl
      · have : decide (c ≤ 0) = decide (c < 0) := by
          rw [decide_eq_decide]
          omega
        simp only [this]
        simp [s42, yesV, h0]; try rfl
    · simp [s42, yesV]; try rfl
    · by_cases h0 : c = 0
      · simp [s42, yesV, h0]; try rfl
      · have : decide (c ≥ 0) = decide (c > 0) := by
          rw [decide_eq_decide]
          omega
        simp only [this]
        simp [s42, yesV, h0]; try rfl
  · simp [hk]
theorem s29 (n : Nat) (o k1 n1 : Int) (t1 : List UInt8) (k2 n2 : Int) (t2 : List UInt8) : pcall C (n + 3) 29 [vI o, vV k1 n1 t1, vV k2 n2 t2] = some ([vV (testN o ⟨k1, n1, t1⟩ ⟨k2, n2, t2⟩).k (testN o ⟨k1, n1, t1⟩ ⟨k2, n2, t2⟩).n (testN o ⟨k1, n1, t1⟩ ⟨k2, n2, t2⟩).t], []) := by
  rw [pcall_step (by rfl), f29_vestryref13_test_eq]
  unfold f29_vestryref13_test
  simp only [s45, s44, callB_some, ok3, ok23, needB_true, List.headD_cons, List.tail_cons, fvF, pvF, toI_int, toS_str, cellsA, testN, ifB_eq, beq_iff_eq]
  split
  · simp [yesV]; try rfl
  split
  · simp [yesV]; try rfl
  split
  · simp [yesV]; try rfl
  split
  · simp [yesV]; try rfl
  split
  · simp [yesV]; try rfl
  simp [yesV]; try rfl
end Go.Proofs.Ytdmigcfokjobaaa

open Go Go.Ev

set_option linter.unusedSimpArgs false

set_option linter.unusedVariables false

set_option maxHeartbeats 1000000

namespace Go.Proofs.Ytdmigcfokjobaaa

theorem right_kind {v : Vl} (h : rightN v = 0) : 0 ≤ v.k ∧ v.k ≤ 2 := by
  unfold rightN at h
  by_cases h1 : v.k < 0 ∨ v.k > 2
  · simp [h1] at h
  · omega
theorem s9 (n : Nat) (o k1 n1 : Int) (t1 : List UInt8) (k2 n2 : Int) (t2 : List UInt8) (h1 : inI n1) (h2 : inI n2) : pcall C (n + 9) 9 [vI o, vV k1 n1 t1, vV k2 n2 t2] = some ([vV (opN o ⟨k1, n1, t1⟩ ⟨k2, n2, t2⟩).v.k (opN o ⟨k1, n1, t1⟩ ⟨k2, n2, t2⟩).v.n (opN o ⟨k1, n1, t1⟩ ⟨k2, n2, t2⟩).v.t, vI (opN o ⟨k1, n1, t1⟩ ⟨k2, n2, t2⟩).e], []) := by
  rw [pcall_step (by rfl), f9_eval_Op_eq]
  unfold f9_eval_Op
  unfold opN
  simp only [s11, callB_some, ok25, needB_true, List.headD_cons, fvF, pvF, toI_int]
  by_cases c1 : o < 1
  · simp [c1, nullV]
  by_cases c2 : o > 13
  · simp [c1, c2, nullV]
  by_cases c3 : rightN ⟨k1, n1, t1⟩ ≠ 0
  · simp [c1, c2, c3, nullV]
  have c3 := Decidable.not_not.1 c3
  by_cases c4 : rightN ⟨k2, n2, t2⟩ ≠ 0
  · simp [c1, c2, c3, c4, nullV]
  have c4 := Decidable.not_not.1 c4
  have r1 := right_kind c3
  have r2 := right_kind c4
  dsimp only at r1 r2
  simp only [c1, c2, c3, c4, decide_false, bne_self_eq_false, ifB_eq, Bool.false_eq_true, if_false, ne_eq, not_true_eq_false, or_self]
  clear c3 c4
  by_cases c5 : o ≤ 2
  · have ho : o = 1 ∨ o = 2 := by omega
    simp only [c5, s23 _ o k1 n1 t1 k2 n2 t2 ho r1 r2]
    simp
  by_cases c6 : k1 = 0
  · simp [c5, c6, nullV]
  by_cases c7 : k2 = 0
  · simp [c5, c6, c7, nullV]
  by_cases c8 : o ≤ 8
  · have ho : 3 ≤ o ∧ o ≤ 8 := by omega
    simp only [c5, c6, c7, c8, s24 _ o k1 n1 t1 k2 n2 t2 ho]
    by_cases c9 : k1 = k2 <;> simp [c6, c7, c9, nullV]
  by_cases c9 : k1 = 2
  · simp [c5, c6, c7, c8, c9, nullV]
  by_cases c10 : k2 = 2
  · simp [c5, c6, c7, c8, c9, c10, nullV]
  have ho : 9 ≤ o ∧ o ≤ 13 := by omega
  simp only [c5, c6, c7, c8, c9, c10, s26 _ o n1 n2 h1 h2 ho, callB_some, ok325, needB_true, List.headD_cons, List.tail_cons, fvF, pvF, toI_int, s25]
  simp [c6, c7, c9, c10]
theorem s10 (n : Nat) (o k1 n1 : Int) (t1 : List UInt8) (k2 n2 : Int) (t2 : List UInt8) (h1 : inI n1) (h2 : inI n2) : pcall C (n + 4) 10 [vI o, vV k1 n1 t1, vV k2 n2 t2] = some ([vV (opN o ⟨k1, n1, t1⟩ ⟨k2, n2, t2⟩).v.k (opN o ⟨k1, n1, t1⟩ ⟨k2, n2, t2⟩).v.n (opN o ⟨k1, n1, t1⟩ ⟨k2, n2, t2⟩).v.t, vI (opN o ⟨k1, n1, t1⟩ ⟨k2, n2, t2⟩).e], []) := by
  rw [pcall_step (by rfl), f10_vestryref13_Op_eq]
  unfold f10_vestryref13_Op
  unfold opN
  simp only [s27, callB_some, ok25, needB_true, List.headD_cons, fvF, pvF, toI_int]
  by_cases c1 : o < 1
  · simp [c1, nullV]
  by_cases c2 : o > 13
  · simp [c1, c2, nullV]
  by_cases c3 : rightN ⟨k1, n1, t1⟩ ≠ 0
  · simp [c1, c2, c3, nullV]
  have c3 := Decidable.not_not.1 c3
  by_cases c4 : rightN ⟨k2, n2, t2⟩ ≠ 0
  · simp [c1, c2, c3, c4, nullV]
  have c4 := Decidable.not_not.1 c4
  have r1 := right_kind c3
  have r2 := right_kind c4
  dsimp only at r1 r2
  simp only [c1, c2, c3, c4, decide_false, bne_self_eq_false, ifB_eq, Bool.false_eq_true, if_false, ne_eq, not_true_eq_false, or_self]
  clear c3 c4
  by_cases c5 : o ≤ 2
  · have ho : o = 1 ∨ o = 2 := by omega
    simp only [c5, s28 _ o k1 n1 t1 k2 n2 t2 ho r1 r2]
    simp
  by_cases c6 : k1 = 0
  · simp [c5, c6, nullV]
  by_cases c7 : k2 = 0
  · simp [c5, c6, c7, nullV]
  by_cases c8 : o ≤ 8
  · by_cases c9 : k1 = k2
    · simp only [c5, c6, c7, c8, s29, c9]
      simp [c7]
    · simp [c5, c6, c7, c8, c9, nullV]
  by_cases c9 : k1 = 2
  · simp [c5, c6, c7, c8, c9, nullV]
  by_cases c10 : k2 = 2
  · simp [c5, c6, c7, c8, c9, c10, nullV]
  have ho : 9 ≤ o ∧ o ≤ 13 := by omega
  simp only [c5, c6, c7, c8, c9, c10, s30 _ o n1 n2 h1 h2 ho, callB_some, ok325, needB_true, List.headD_cons, List.tail_cons, fvF, pvF, toI_int]
  by_cases c11 : (sumsN o n1 n2).2 = 0 <;> simp [c6, c7, c9, c10, c11, numR, nullV, numV, s31]
theorem s33 (n : Nat) (k m : Int) (t : List UInt8) : pcall C (n + 3) 33 [vV k m t] = some ([vV (knownN ⟨k, m, t⟩).v.k (knownN ⟨k, m, t⟩).v.n (knownN ⟨k, m, t⟩).v.t, vI (knownN ⟨k, m, t⟩).e], []) := by
  rw [pcall_step (by rfl), f33_eval_known_eq]
  unfold f33_eval_known knownN
  by_cases h : rightN ⟨k, m, t⟩ = 0 <;> simp [s11, h, nullV]
theorem s37 (n : Nat) (k m : Int) (t : List UInt8) : pcall C (n + 2) 37 [vV k m t] = some ([vV (knownN ⟨k, m, t⟩).v.k (knownN ⟨k, m, t⟩).v.n (knownN ⟨k, m, t⟩).v.t, vI (knownN ⟨k, m, t⟩).e], []) := by
  rw [pcall_step (by rfl), f37_vestryref13_right_eq]
  unfold f37_vestryref13_right knownN
  by_cases h : rightN ⟨k, m, t⟩ = 0 <;> simp [s27, h, nullV]
theorem neg_fit (m : Int) (h : inI m) : if m = -9223372036854775808 then ¬ inI (-m) else inI (-m) ∧ IntKind.wrap .i64 (0 - m) = -m := by
  unfold inI at h ⊢
  split
  · omega
  · rw [IntKind.wrap_i64]; omega
theorem s34 (n : Nat) (o k m : Int) (t : List UInt8) (hm : inI m) : pcall C (n + 3) 34 [vI o, vV k m t] = some ([vV (oneN o ⟨k, m, t⟩).v.k (oneN o ⟨k, m, t⟩).v.n (oneN o ⟨k, m, t⟩).v.t, vI (oneN o ⟨k, m, t⟩).e], []) := by
  rw [pcall_step (by rfl), f34_eval_one_eq]
  unfold f34_eval_one oneN
  have w := neg_fit m hm
  by_cases c1 : o = 6
  · simp [c1, s42, yesV]
  by_cases c2 : k = 0
  · simp [c1, c2]
  by_cases c3 : k = 2
  · simp [c1, c2, c3, nullV]
  by_cases c4 : o = 4
  · simp [c1, c2, c3, c4, s42, yesV]
  by_cases c5 : m = -9223372036854775808
  · simp only [c5, if_true] at w
    simp only [c1, c2, c3, c4, c5, fitN, w]
    simp [c1, c2, c3, c4, numR, nullV]
  · simp only [c5, if_false] at w
    rw [w.2]
    simp only [c1, c2, c3, c4, c5, fitN, w.1, s25]
    simp [c1, c2, c3, c4, c5]
theorem s38 (n : Nat) (o k m : Int) (t : List UInt8) (hm : inI m) : pcall C (n + 3) 38 [vI o, vV k m t] = some ([vV (oneN o ⟨k, m, t⟩).v.k (oneN o ⟨k, m, t⟩).v.n (oneN o ⟨k, m, t⟩).v.t, vI (oneN o ⟨k, m, t⟩).e], []) := by
  rw [pcall_step (by rfl), f38_vestryref13_one_eq]
  unfold f38_vestryref13_one oneN
  have w := neg_fit m hm
  by_cases c1 : o = 6
  · simp [c1, s44, yesV]
  by_cases c2 : k = 0
  · simp [c1, c2]
  by_cases c3 : k = 2
  · simp [c1, c2, c3, nullV]
  by_cases c4 : o = 4
  · simp [c1, c2, c3, c4, s44, yesV]
  by_cases c5 : m = -9223372036854775808
  · simp only [c5, if_true] at w
    simp only [c1, c2, c3, c4, c5, fitN, w]
    simp [c1, c2, c3, c4, numR, nullV]
  · simp only [c5, if_false] at w
    rw [w.2]
    simp only [c1, c2, c3, c4, c5, fitN, w.1, s31]
    simp [c1, c2, c3, c4, c5, numR, numV]
end Go.Proofs.Ytdmigcfokjobaaa

open Go Go.Ev

set_option linter.unusedSimpArgs false

set_option linter.unusedVariables false

set_option maxHeartbeats 1000000

namespace Go.Proofs.Ytdmigcfokjobaaa

theorem s17 (n : Nat) (a : Int) : pcall C (n + 1) 17 [vI a] = some ([vV 1 a []], []) := by
  rw [pcall_step (by rfl), f17_vestrylaw07_Num_eq]
  rfl
theorem s22 (n : Nat) (a : List UInt8) : pcall C (n + 1) 22 [.flat (.val (.str a))] = some ([vV 2 0 a], []) := by
  rw [pcall_step (by rfl), f22_vestrylaw07_Text_eq]
  rfl
theorem s8 (n : Nat) : pcall C (n + 10) 8 [] = some ([vB true], []) := by
  rw [pcall_step (by rfl), f8_vestrylaw13_small_eq]
  unfold f8_vestrylaw13_small
  have i0 : inI 0 := by decide
  have i1 : inI 1 := by decide
  have i2 : inI 2 := by decide
  have i7 : inI (-7) := by decide
  have im : inI 9223372036854775807 := by decide
  have e1 : opN 2 ⟨0, 0, []⟩ ⟨1, 0, []⟩ = ⟨⟨1, 0, []⟩, 0⟩ := by decide
  have e2 : opN 1 ⟨0, 0, []⟩ ⟨1, 0, []⟩ = ⟨⟨0, 0, []⟩, 0⟩ := by decide
  have e3 : opN 9 ⟨1, 9223372036854775807, []⟩ ⟨1, 1, []⟩ = ⟨⟨0, 0, []⟩, 7⟩ := by decide
  have e4 : opN 12 ⟨1, -7, []⟩ ⟨1, 2, []⟩ = ⟨⟨1, -3, []⟩, 0⟩ := by decide
  have e5 : opN 5 ⟨1, 0, []⟩ ⟨2, 0, [97]⟩ = ⟨⟨0, 0, []⟩, 9⟩ := by decide
  simp only [s17, s22, callB_some, ok23, ok2325, needB_true, List.headD_cons, List.tail_cons, fvF, pvF, toI_int, toS_str, cellsA, s9 _ _ _ 0 _ _ 0 _ i0 i0, s9 _ _ _ 9223372036854775807 _ _ 1 _ im i1, s9 _ _ _ (-7) _ _ 2 _ i7 i2, e1, e2, e3, e4, e5]
  simp
theorem s3 (n : Nat) (o k1 n1 : Int) (t1 : List UInt8) (k2 n2 : Int) (t2 : List UInt8) (h1 : inI n1) (h2 : inI n2) : pcall C (n + 11) 3 [vI o, vV k1 n1 t1, vV k2 n2 t2] = some ([vB true], []) := by
  rw [pcall_step (by rfl), f3_vestrylaw13_EvalOps_eq]
  unfold f3_vestrylaw13_EvalOps
  simp only [s8, s9 _ o k1 n1 t1 k2 n2 t2 h1 h2, s10 _ o k1 n1 t1 k2 n2 t2 h1 h2, callB_some, ok4, ok2325, needB_true, List.headD_cons, List.tail_cons, fvF, pvF, toI_int, toB_bool, toS_str, cellsA]
  simp
end Go.Proofs.Ytdmigcfokjobaaa

open Go Go.Ev

set_option linter.unusedSimpArgs false

set_option linter.unusedVariables false

set_option maxHeartbeats 1000000

namespace Go.Proofs.Ytdmigcfokjobaaa

/-! ### expressions -/
abbrev pV (k n : Int) (t : List UInt8) : PV := .agg [.int .i64 k, .int .i64 n, .str t]
abbrev pE (k o : Int) (s1 s2 : List UInt8) (vk vn : Int) (vt : List UInt8) (gs : List PV) : PV := .agg [.int .i64 k, .int .i64 o, .str s1, .str s2, .int .i64 vk, .int .i64 vn, .str vt, .sl (some 8) gs]
abbrev vP (p : PV) : OV := .flat (.val p)
inductive IsE : PV → Prop
  | mk (k o : Int) (s1 s2 : List UInt8) (vk vn : Int) (vt : List UInt8) (gs : List PV) (hn : inI vn) (h : ∀ x ∈ gs, IsE x) : IsE (pE k o s1 s2 vk vn vt gs)
def IsV (x : PV) : Prop := ∃ k n t, x = pV k n t ∧ inI n
theorem IsE.inv {e : PV} (h : IsE e) : ∃ k o s1 s2 vk vn vt gs, e = pE k o s1 s2 vk vn vt gs ∧ inI vn ∧ ∀ x ∈ gs, IsE x := by
  cases h with
  | mk k o s1 s2 vk vn vt gs hn h => exact ⟨k, o, s1, s2, vk, vn, vt, gs, rfl, hn, h⟩
def argsOf (e : PV) : List PV := (e.cells.getD 7 .undef).toL
def eK (e : PV) : Int := (e.cells.getD 0 .undef).toI
def eO (e : PV) : Int := (e.cells.getD 1 .undef).toI
def eV (e : PV) : Vl := ⟨(e.cells.getD 4 .undef).toI, (e.cells.getD 5 .undef).toI, (e.cells.getD 6 .undef).toS⟩
def valOf (x : PV) : Vl := ⟨(x.cells.getD 0 .undef).toI, (x.cells.getD 1 .undef).toI, (x.cells.getD 2 .undef).toS⟩
theorem argsOf_pE (k o s1 s2 vk vn vt gs) : argsOf (pE k o s1 s2 vk vn vt gs) = gs := rfl
theorem eK_pE (k o s1 s2 vk vn vt gs) : eK (pE k o s1 s2 vk vn vt gs) = k := rfl
theorem eO_pE (k o s1 s2 vk vn vt gs) : eO (pE k o s1 s2 vk vn vt gs) = o := rfl
theorem eV_pE (k o s1 s2 vk vn vt gs) : eV (pE k o s1 s2 vk vn vt gs) = ⟨vk, vn, vt⟩ := rfl
theorem hasT35 (k o s1 s2 vk vn vt gs) : hasT Go.Proofs.Try.prog 35 (pE k o s1 s2 vk vn vt gs) = true := by kernel_rfl
def fewN : Nat → PV → Bool
  | 0, _ => false
  | d + 1, e => decide ((argsOf e).length ≤ 3) && (argsOf e).all (fewN d)
theorem nthP_lt {gs : List PV} {i : Nat} (h : i < gs.length) : nthP gs i = gs[i] := by
  simp [nthP, List.getD, List.getElem?_eq_getElem h]
theorem wrap_nat (i : Nat) (h : i < 9223372036854775807) : IntKind.wrap .i64 ((i : Int) + 1) = ((i + 1 : Nat) : Int) := by
  rw [IntKind.wrap_i64]; omega

theorem few_loop (rec : Rec) (n : Nat) (x0 k o : Int) (s1 s2 : List UInt8) (vk vn : Int) (vt : List UInt8) (gs : List PV) (p : PV → Bool) (hE : ∀ x ∈ gs, IsE x) (hlen : gs.length ≤ 3)
    (hrec : ∀ x ∈ gs, rec 14 [vP x, vI (IntKind.wrap .i64 (x0 - 1))] = some ([vB (p x)], [])) :
    ∀ (m i : Nat), gs.length < m + i → i ≤ gs.length → f14_vestrylaw13_few.l0 rec n m x0 k o s1 s2 vk vn vt gs (i : Int) = some ([vB ((gs.drop i).all p)], [])
  | 0, i, h1, h2 => by omega
  | m + 1, i, h1, h2 => by
    show f14_vestrylaw13_few.l0.step rec n (f14_vestrylaw13_few.l0 rec n m) x0 k o s1 s2 vk vn vt gs (i : Int) = _
    unfold f14_vestrylaw13_few.l0.step
    by_cases hi : i < gs.length
    · have hx := hE gs[i] (List.getElem_mem hi)
      have hr := hrec gs[i] (List.getElem_mem hi)
      obtain ⟨k', o', s1', s2', vk', vn', vt', gs', he, _, _⟩ := hx.inv
      have hd : gs.drop i = gs[i] :: gs.drop (i + 1) := (List.drop_eq_getElem_cons hi)
      have w := wrap_nat i (by omega)
      have c1 : ((i : Int) < (gs.length : Int)) := by omega
      have c2 : (0 : Int) ≤ (i : Int) := by omega
      have ih := few_loop rec n x0 k o s1 s2 vk vn vt gs p hE hlen hrec m (i + 1) (by omega) (by omega)
      rw [he] at hr
      simp only [c1, c2, decide_true, needB_true, Int.toNat_natCast, nthP_lt hi, he, hasT35, cellsA, List.headD_cons, List.tail_cons, toI_int, toS_str, toL_sl, hr, callB_some, ok4, fvF, pvF, toB_bool, w, ih, ifB_eq, if_true, hd, List.all_cons]
      cases p (pE k' o' s1' s2' vk' vn' vt' gs') <;> simp
    · have c1 : ¬ ((i : Int) < (gs.length : Int)) := by omega
      have hd : gs.drop i = [] := List.drop_eq_nil_of_le (by omega)
      simp only [c1, decide_false, ifB_eq, hd]
      simp
theorem s14 : ∀ (d n : Nat) (e : PV), IsE e → d ≤ 1000 → pcall C (n + d + 6) 14 [vP e, vI (d : Int)] = some ([vB (fewN d e)], [])
  | 0, n, e, he, hd => by
    obtain ⟨k, o, s1, s2, vk, vn, vt, gs, rfl, hn, ha⟩ := he.inv
    rw [pcall_step (by rfl), f14_vestrylaw13_few_eq]
    unfold f14_vestrylaw13_few f14_vestrylaw13_few.pre
    simp [fewN]
  | d + 1, n, e, he, hd => by
    obtain ⟨k, o, s1, s2, vk, vn, vt, gs, rfl, hn, ha⟩ := he.inv
    rw [pcall_step (by rfl), f14_vestrylaw13_few_eq]
    unfold f14_vestrylaw13_few f14_vestrylaw13_few.pre
    have c0 : ¬ (((d + 1 : Nat) : Int) = 0) := by omega
    have w : IntKind.wrap .i64 (((d + 1 : Nat) : Int) - 1) = (d : Int) := by rw [IntKind.wrap_i64]; omega
    by_cases hl : gs.length ≤ 3
    · have c1 : ¬ (((gs.length : Nat) : Int) > 3) := by omega
      have ih : ∀ x ∈ gs, pcall C (n + (d + 1) + 5) 14 [vP x, vI (IntKind.wrap .i64 (((d + 1 : Nat) : Int) - 1))] = some ([vB (fewN d x)], []) := fun x hx => by
        rw [w]
        have := s14 d n x (ha x hx) (by omega)
        exact this
      have := few_loop (pcall C (n + (d + 1) + 5)) (n + (d + 1) + 5) ((d + 1 : Nat) : Int) k o s1 s2 vk vn vt gs (fewN d) ha hl ih (n + (d + 1) + 5) 0 (by omega) (by omega)
      simp only [Int.natCast_zero, show ((0 : Nat) : Int) = 0 from rfl] at this
      simp only [beq_iff_eq, c0, c1, decide_false, ifB_eq, if_false, this, fewN, argsOf_pE, hl, decide_true, List.drop_zero]
      simp
    · have c1 : (((gs.length : Nat) : Int) > 3) := by omega
      simp only [beq_iff_eq, c0, c1, decide_true, ifB_eq, if_false, fewN, argsOf_pE, hl, decide_false]
      simp
end Go.Proofs.Ytdmigcfokjobaaa

open Go Go.Ev

set_option linter.unusedSimpArgs false

set_option linter.unusedVariables false

set_option maxHeartbeats 2000000

namespace Go.Proofs.Ytdmigcfokjobaaa

def evalN : Nat → PV → List PV → Rs
  | 0, _, _ => ⟨nullV, 0⟩
  | d + 1, e, row =>
    if eK e = 1 then knownN (eV e)
    else if eK e = 2 then (if (eV e).k = 1 ∧ 0 ≤ (eV e).n ∧ (eV e).n < (row.length : Int) then knownN (valOf (nthP row (eV e).n.toNat)) else ⟨nullV, 12⟩)
    else if eK e = 3 then (match argsOf e with
      | [x, y] => if (evalN d x row).e ≠ 0 then ⟨nullV, (evalN d x row).e⟩ else if (evalN d y row).e ≠ 0 then ⟨nullV, (evalN d y row).e⟩ else opN (eO e) (evalN d x row).v (evalN d y row).v
      | _ => ⟨nullV, 4⟩)
    else if eK e = 4 ∨ eK e = 5 ∨ eK e = 6 then (match argsOf e with
      | [x] => if (evalN d x row).e ≠ 0 then ⟨nullV, (evalN d x row).e⟩ else oneN (eK e) (evalN d x row).v
      | _ => ⟨nullV, 4⟩)
    else ⟨nullV, 4⟩

theorem evalN_pE (d : Nat) (k o : Int) (s1 s2 : List UInt8) (vk vn : Int) (vt : List UInt8) (gs : List PV) (row : List PV) : evalN (d + 1) (pE k o s1 s2 vk vn vt gs) row =
    if k = 1 then knownN ⟨vk, vn, vt⟩
    else if k = 2 then (if vk = 1 ∧ 0 ≤ vn ∧ vn < (row.length : Int) then knownN (valOf (nthP row vn.toNat)) else ⟨nullV, 12⟩)
    else if k = 3 then (match gs with
      | [x, y] => if (evalN d x row).e ≠ 0 then ⟨nullV, (evalN d x row).e⟩ else if (evalN d y row).e ≠ 0 then ⟨nullV, (evalN d y row).e⟩ else opN o (evalN d x row).v (evalN d y row).v
      | _ => ⟨nullV, 4⟩)
    else if k = 4 ∨ k = 5 ∨ k = 6 then (match gs with
      | [x] => if (evalN d x row).e ≠ 0 then ⟨nullV, (evalN d x row).e⟩ else oneN k (evalN d x row).v
      | _ => ⟨nullV, 4⟩)
    else ⟨nullV, 4⟩ := rfl
theorem null_in : inI 0 := by decide
theorem known_in (v : Vl) (h : inI v.n) : inI (knownN v).v.n := by
  unfold knownN; split
  · decide
  · exact h
theorem fit_in (n : Int) : inI (fitN n).1 := by
  unfold fitN
  split
  · assumption
  · decide
theorem num_in {r : Int × Int} (h : inI r.1) : inI (numR r).v.n := by
  unfold numR
  split
  · exact h
  · exact null_in
theorem bit_in (b : Bool) : inI (bitN b) := by cases b <;> decide
theorem sums_in (o a b : Int) (hb : inI b) : inI (sumsN o a b).1 := by
  unfold sumsN
  split
  · exact fit_in _
  split
  · exact fit_in _
  split
  · exact fit_in _
  split
  · decide
  split
  · exact fit_in _
  · rename_i h0 h1
    have h2 := Int.tmod_lt_of_pos a (b := (b.natAbs : Int)) (by omega)
    have h3 : Int.tmod a (b.natAbs : Int) = Int.tmod a b := by
      rcases Int.natAbs_eq b with h | h
      · rw [← h]
      · conv => rhs; rw [h]
        rw [Int.tmod_neg]
    have h4 : -(b.natAbs : Int) < Int.tmod a b := by
      have h5 := Int.tmod_lt_of_pos (-a) (b := (b.natAbs : Int)) (by omega)
      rw [Int.neg_tmod, h3] at h5
      omega
    rw [h3] at h2
    show inI (Int.tmod a b)
    unfold inI at hb ⊢
    omega
theorem op_in (o : Int) (a b : Vl) (hb : inI b.n) : inI (opN o a b).v.n := by
  unfold opN
  split
  · decide
  split
  · unfold bothN
    repeat' split
    all_goals decide
  split
  · decide
  split
  · split
    · decide
    · unfold testN
      dsimp only
      repeat' split
      all_goals exact bit_in _
  split
  · decide
  · exact num_in (sums_in _ _ _ hb)
theorem one_in (k : Int) (v : Vl) (h : inI v.n) : inI (oneN k v).v.n := by
  unfold oneN
  split
  · exact bit_in _
  split
  · exact h
  split
  · decide
  split
  · exact bit_in _
  · exact num_in (fit_in _)
theorem eval_in (row : List PV) (hr : ∀ x ∈ row, IsV x) : ∀ (d : Nat) (e : PV), IsE e → inI (evalN d e row).v.n
  | 0, e, he => null_in
  | d + 1, e, he => by
    obtain ⟨k, o, s1, s2, vk, vn, vt, gs, rfl, hn, ha⟩ := he.inv
    rw [evalN_pE]
    by_cases c1 : k = 1
    · rw [if_pos c1]
      exact known_in _ hn
    by_cases c2 : k = 2
    · rw [if_neg c1, if_pos c2]
      by_cases h : vk = 1 ∧ 0 ≤ vn ∧ vn < (row.length : Int)
      · rw [if_pos h]
        apply known_in
        have hlt : vn.toNat < row.length := by omega
        obtain ⟨k', n', t', hx, hi⟩ := hr _ (List.getElem_mem hlt)
        rw [nthP_lt hlt, hx]
        exact hi
      · rw [if_neg h]
        exact null_in
    by_cases c3 : k = 3
    · rw [if_neg c1, if_neg c2, if_pos c3]
      match gs, ha with
      | [], _ => exact null_in
      | [x], _ => exact null_in
      | [x, y], ha =>
        dsimp only
        split
        · exact null_in
        split
        · exact null_in
        · exact op_in _ _ _ (eval_in row hr d y (ha y (by simp)))
      | x :: y :: z :: r, _ => exact null_in
    by_cases c4 : k = 4 ∨ k = 5 ∨ k = 6
    · rw [if_neg c1, if_neg c2, if_neg c3, if_pos c4]
      match gs, ha with
      | [], _ => exact null_in
      | [x], ha =>
        dsimp only
        split
        · exact null_in
        · exact one_in _ _ (eval_in row hr d x (ha x (by simp)))
      | x :: y :: r, _ => exact null_in
    · rw [if_neg c1, if_neg c2, if_neg c3, if_neg c4]
      exact null_in
end Go.Proofs.Ytdmigcfokjobaaa

open Go Go.Ev

set_option linter.unusedSimpArgs false

set_option linter.unusedVariables false

set_option maxHeartbeats 2000000

namespace Go.Proofs.Ytdmigcfokjobaaa

theorem newA0 (a b c o : PV) : newAt ((0 : Int).toNat * 3) 0 [a, b, c] o = a := rfl
theorem newA1 (a b c o : PV) : newAt ((0 : Int).toNat * 3) 1 [a, b, c] o = b := rfl
theorem newA2 (a b c o : PV) : newAt ((0 : Int).toNat * 3) 2 [a, b, c] o = c := rfl
theorem newA3 (a b c o : PV) : newAt ((0 : Int).toNat * 3) 3 [a, b, c] o = o := rfl
theorem newA4 (a b c o : PV) : newAt ((0 : Int).toNat * 3) 4 [a, b, c] o = o := rfl
theorem newA5 (a b c o : PV) : newAt ((0 : Int).toNat * 3) 5 [a, b, c] o = o := rfl
theorem newB0 (a b c o : PV) : newAt ((1 : Int).toNat * 3) 0 [a, b, c] o = o := rfl
theorem newB1 (a b c o : PV) : newAt ((1 : Int).toNat * 3) 1 [a, b, c] o = o := rfl
theorem newB2 (a b c o : PV) : newAt ((1 : Int).toNat * 3) 2 [a, b, c] o = o := rfl
theorem newB3 (a b c o : PV) : newAt ((1 : Int).toNat * 3) 3 [a, b, c] o = a := rfl
theorem newB4 (a b c o : PV) : newAt ((1 : Int).toNat * 3) 4 [a, b, c] o = b := rfl
theorem newB5 (a b c o : PV) : newAt ((1 : Int).toNat * 3) 5 [a, b, c] o = c := rfl
theorem likeI (a b : Int) : hasLike (.int .i64 a) (.int .i64 b) = true := rfl
theorem likeS (a b : List UInt8) : hasLike (.str a) (.str b) = true := rfl
theorem w01 : IntKind.wrap .i64 ((0 : Int) + 1) = 1 := by decide
theorem w12 : IntKind.wrap .i64 ((1 : Int) + 1) = 2 := by decide
theorem nth0 (x : PV) (r : List PV) : nthP (x :: r) ((0 : Int).toNat) = x := rfl
theorem nth1 (x y : PV) (r : List PV) : nthP (x :: y :: r) ((1 : Int).toNat) = y := rfl
theorem nth0' (x : PV) (r : List PV) : nthP (x :: r) 0 = x := rfl
theorem nth1' (x y : PV) (r : List PV) : nthP (x :: y :: r) 1 = y := rfl
theorem ble0 : Nat.ble ((0 : Int).toNat * 3 + 3) 6 = true := rfl
theorem ble1 : Nat.ble ((1 : Int).toNat * 3 + 3) 6 = true := rfl

theorem ev_succ (rec : Rec) (n m : Nat) (x0 : List PV) (x1 x2 : Int) (x3 x4 : List UInt8) (x5 x6 : Int) (x7 : List UInt8) (x8 : List PV) (x9 x10 : Int) (x11 : List UInt8) (x12 x13 x14 : Int) (x15 : List UInt8) (x16 x17 : Int) (x18 : List UInt8) (x19 : List PV) (x20 x21 : Int) :
    f15_eval_Eval.l0 rec n (m + 1) x0 x1 x2 x3 x4 x5 x6 x7 x8 x9 x10 x11 x12 x13 x14 x15 x16 x17 x18 x19 x20 x21 = f15_eval_Eval.l0.step rec n (f15_eval_Eval.l0 rec n m) x0 x1 x2 x3 x4 x5 x6 x7 x8 x9 x10 x11 x12 x13 x14 x15 x16 x17 x18 x19 x20 x21 := rfl
theorem rv_succ (rec : Rec) (n m : Nat) (x0 : List PV) (x1 x2 : Int) (x3 x4 : List UInt8) (x5 x6 : Int) (x7 : List UInt8) (x8 : List PV) (x9 x10 : Int) (x11 : List UInt8) (x12 : Int) (x13 : List PV) (x14 : Int) :
    f19_vestryref13_Eval.l0 rec n (m + 1) x0 x1 x2 x3 x4 x5 x6 x7 x8 x9 x10 x11 x12 x13 x14 = f19_vestryref13_Eval.l0.step rec n (f19_vestryref13_Eval.l0 rec n m) x0 x1 x2 x3 x4 x5 x6 x7 x8 x9 x10 x11 x12 x13 x14 := rfl


/-- What an expression of two parts, or of one, comes to. -/
def twoR (o : Int) (rx ry : Rs) : Rs := if rx.e ≠ 0 then ⟨nullV, rx.e⟩ else if ry.e ≠ 0 then ⟨nullV, ry.e⟩ else opN o rx.v ry.v
def oneR (k : Int) (rx : Rs) : Rs := if rx.e ≠ 0 then ⟨nullV, rx.e⟩ else oneN k rx.v
def rsO (r : Rs) : Option (List OV × List OV) := some ([vV r.v.k r.v.n r.v.t, vI r.e], [])
theorem len2 (x y : PV) : ((([x, y] : List PV).length : Nat) : Int) = 2 := rfl
theorem lb02 (x y : PV) : Nat.blt 0 ([x, y] : List PV).length = true := rfl
theorem lb12 (x y : PV) : Nat.blt 1 ([x, y] : List PV).length = true := rfl
theorem lb01 (x : PV) : Nat.blt 0 ([x] : List PV).length = true := rfl
theorem len1 (x : PV) : ((([x] : List PV).length : Nat) : Int) = 1 := rfl

theorem ev_two (n N m : Nat) (row : List PV) (k o : Int) (s1 s2 : List UInt8) (vk vn : Int) (vt : List UInt8) (k1 o1 : Int) (p1 q1 : List UInt8) (k1' n1 : Int) (t1 : List UInt8) (g1 : List PV) (k2 o2 : Int) (p2 q2 : List UInt8) (k2' n2 : Int) (t2 : List UInt8) (g2 : List PV) (rx ry : Rs)
    (ix : inI rx.v.n) (iy : inI ry.v.n)
    (ex : pcall C (n + 9) 15 [vP (pE k1 o1 p1 q1 k1' n1 t1 g1), .flat (.val (.sl (some 3) row))] = rsO rx)
    (ey : pcall C (n + 9) 15 [vP (pE k2 o2 p2 q2 k2' n2 t2 g2), .flat (.val (.sl (some 3) row))] = rsO ry) :
    f15_eval_Eval.l0 (pcall C (n + 9)) N (m + 3) row k o s1 s2 vk vn vt [pE k1 o1 p1 q1 k1' n1 t1 g1, pE k2 o2 p2 q2 k2' n2 t2 g2] (0 : Int) (0 : Int) ([] : List UInt8) (2 : Int) (0 : Int) (0 : Int) ([] : List UInt8) (0 : Int) (0 : Int) ([] : List UInt8) [pE k1 o1 p1 q1 k1' n1 t1 g1, pE k2 o2 p2 q2 k2' n2 t2 g2] (2 : Int) (0 : Int) = rsO (twoR o rx ry) := by
  unfold rsO at ex ey
  rw [ev_succ]
  unfold f15_eval_Eval.l0.step
  simp only [show decide ((0 : Int) < 2) = true from rfl, show decide ((0 : Int) ≤ 0) = true from rfl, len2, needB_true, nth0, hasT35, cellsA, List.headD_cons, List.tail_cons, toI_int, toS_str, toL_sl, ex, callB_some, ok2325, fvF, pvF, ble0, newA0, newA1, newA2, newA3, newA4, newA5, likeI, likeS, Bool.and_true, Bool.true_and, w01, ifB_eq, if_true]
  by_cases hx0 : rx.e = 0
  · simp only [hx0, bne_self_eq_false, Bool.false_eq_true, if_false, ne_eq, not_true_eq_false]
    rw [ev_succ]
    unfold f15_eval_Eval.l0.step
    simp only [show decide ((1 : Int) < 2) = true from rfl, show decide ((0 : Int) ≤ 1) = true from rfl, len2, needB_true, nth1, hasT35, cellsA, List.headD_cons, List.tail_cons, toI_int, toS_str, toL_sl, ey, callB_some, ok2325, fvF, pvF, ble1, newB0, newB1, newB2, newB3, newB4, newB5, likeI, likeS, Bool.and_true, Bool.true_and, w12, ifB_eq, if_true]
    by_cases hy0 : ry.e = 0
    · simp only [hy0, bne_self_eq_false, Bool.false_eq_true, if_false, ne_eq, not_true_eq_false]
      rw [ev_succ]
      unfold f15_eval_Eval.l0.step
      have e2 : twoR o rx ry = opN o rx.v ry.v := by simp [twoR, hx0, hy0]
      rw [e2]
      simp only [show decide ((2 : Int) < 2) = false from rfl, show ((2 : Int) == 2) = true from rfl, ifB_eq, Bool.false_eq_true, if_false, if_true, s9 _ _ _ _ _ _ _ _ ix iy, callB_some, ok2325, needB_true, List.headD_cons, List.tail_cons, fvF, pvF, toI_int, toS_str, cellsA, Vl.eta, rsO]
    · simp only [bne_iff_ne, ne_eq, hy0, not_false_eq_true, if_true, rsO, twoR, hx0, not_true_eq_false, if_false, nullV]
  · simp only [bne_iff_ne, ne_eq, hx0, not_false_eq_true, if_true, rsO, twoR, nullV]
theorem ev_one (n N m : Nat) (row : List PV) (k o : Int) (s1 s2 : List UInt8) (vk vn : Int) (vt : List UInt8) (k1 o1 : Int) (p1 q1 : List UInt8) (k1' n1 : Int) (t1 : List UInt8) (g1 : List PV) (rx : Rs)
    (ix : inI rx.v.n)
    (ex : pcall C (n + 9) 15 [vP (pE k1 o1 p1 q1 k1' n1 t1 g1), .flat (.val (.sl (some 3) row))] = rsO rx) :
    f15_eval_Eval.l0 (pcall C (n + 9)) N (m + 2) row k o s1 s2 vk vn vt [pE k1 o1 p1 q1 k1' n1 t1 g1] (0 : Int) (0 : Int) ([] : List UInt8) (1 : Int) (0 : Int) (0 : Int) ([] : List UInt8) (0 : Int) (0 : Int) ([] : List UInt8) [pE k1 o1 p1 q1 k1' n1 t1 g1] (1 : Int) (0 : Int) = rsO (oneR k rx) := by
  unfold rsO at ex
  rw [ev_succ]
  unfold f15_eval_Eval.l0.step
  simp only [show decide ((0 : Int) < 1) = true from rfl, show decide ((0 : Int) < 2) = true from rfl, show decide ((0 : Int) ≤ 0) = true from rfl, len1, needB_true, nth0, hasT35, cellsA, List.headD_cons, List.tail_cons, toI_int, toS_str, toL_sl, ex, callB_some, ok2325, fvF, pvF, ble0, newA0, newA1, newA2, newA3, newA4, newA5, likeI, likeS, Bool.and_true, Bool.true_and, w01, ifB_eq, if_true]
  by_cases hx0 : rx.e = 0
  · simp only [hx0, bne_self_eq_false, Bool.false_eq_true, if_false, ne_eq, not_true_eq_false]
    rw [ev_succ]
    unfold f15_eval_Eval.l0.step
    have e2 : oneR k rx = oneN k rx.v := by simp [oneR, hx0]
    rw [e2]
    simp only [show decide ((1 : Int) < 1) = false from rfl, show ((1 : Int) == 2) = false from rfl, ifB_eq, Bool.false_eq_true, if_false, if_true, s34 _ _ _ _ _ ix, callB_some, ok2325, needB_true, List.headD_cons, List.tail_cons, fvF, pvF, toI_int, toS_str, cellsA, Vl.eta, rsO]
  · simp only [bne_iff_ne, ne_eq, hx0, not_false_eq_true, if_true, rsO, oneR, nullV]
theorem rv_two (n N m : Nat) (row : List PV) (k o : Int) (s1 s2 : List UInt8) (vk vn : Int) (vt : List UInt8) (k1 o1 : Int) (p1 q1 : List UInt8) (k1' n1 : Int) (t1 : List UInt8) (g1 : List PV) (k2 o2 : Int) (p2 q2 : List UInt8) (k2' n2 : Int) (t2 : List UInt8) (g2 : List PV) (rx ry : Rs)
    (ix : inI rx.v.n) (iy : inI ry.v.n)
    (ex : pcall C (n + 9) 19 [vP (pE k1 o1 p1 q1 k1' n1 t1 g1), .flat (.val (.sl (some 3) row))] = rsO rx)
    (ey : pcall C (n + 9) 19 [vP (pE k2 o2 p2 q2 k2' n2 t2 g2), .flat (.val (.sl (some 3) row))] = rsO ry) :
    f19_vestryref13_Eval.l0 (pcall C (n + 9)) N (m + 3) row k o s1 s2 vk vn vt [pE k1 o1 p1 q1 k1' n1 t1 g1, pE k2 o2 p2 q2 k2' n2 t2 g2] (0 : Int) (0 : Int) ([] : List UInt8) (2 : Int) [] (0 : Int) = rsO (twoR o rx ry) := by
  unfold rsO at ex ey
  rw [rv_succ]
  unfold f19_vestryref13_Eval.l0.step
  simp only [show decide ((0 : Int) < 2) = true from rfl, show decide ((0 : Int) ≤ 0) = true from rfl, len2, needB_true, nth0, hasT35, cellsA, List.headD_cons, List.tail_cons, toI_int, toS_str, toL_sl, ex, callB_some, ok2325, fvF, pvF, w01, ifB_eq, if_true]
  by_cases hx0 : rx.e = 0
  · simp only [hx0, bne_self_eq_false, Bool.false_eq_true, if_false, ne_eq, not_true_eq_false, List.length_nil, List.length_cons, List.nil_append, show Nat.ble ((0 + (0 + 1)) * 32) 140737488355328 = true from rfl, show Nat.ble (0 + (0 + 1)) 9223372036854775807 = true from rfl, needB_true]
    rw [rv_succ]
    unfold f19_vestryref13_Eval.l0.step
    simp only [show decide ((1 : Int) < 2) = true from rfl, show decide ((0 : Int) ≤ 1) = true from rfl, len2, needB_true, nth1, hasT35, cellsA, List.headD_cons, List.tail_cons, toI_int, toS_str, toL_sl, ey, callB_some, ok2325, fvF, pvF, w12, ifB_eq, if_true]
    by_cases hy0 : ry.e = 0
    · simp only [hy0, bne_self_eq_false, Bool.false_eq_true, if_false, ne_eq, not_true_eq_false, List.length_nil, List.length_cons, List.cons_append, List.nil_append, show Nat.ble ((0 + 1 + (0 + 1)) * 32) 140737488355328 = true from rfl, show Nat.ble (0 + 1 + (0 + 1)) 9223372036854775807 = true from rfl, needB_true]
      rw [rv_succ]
      unfold f19_vestryref13_Eval.l0.step
      have e2 : twoR o rx ry = opN o rx.v ry.v := by simp [twoR, hx0, hy0]
      rw [e2]
      simp only [len2, show decide ((2 : Int) < 2) = false from rfl, show ((2 : Int) == 2) = true from rfl, show decide ((0 : Int) < 2) = true from rfl, show decide ((1 : Int) < 2) = true from rfl, lb02, lb12, nth0', nth1', hasT23, ifB_eq, Bool.false_eq_true, if_false, if_true, s10 _ _ _ _ _ _ _ _ ix iy, callB_some, ok2325, needB_true, List.headD_cons, List.tail_cons, fvF, pvF, toI_int, toS_str, cellsA, Vl.eta, rsO]
    · simp only [bne_iff_ne, ne_eq, hy0, not_false_eq_true, if_true, rsO, twoR, hx0, not_true_eq_false, if_false, nullV]
  · simp only [bne_iff_ne, ne_eq, hx0, not_false_eq_true, if_true, rsO, twoR, nullV]
theorem rv_one (n N m : Nat) (row : List PV) (k o : Int) (s1 s2 : List UInt8) (vk vn : Int) (vt : List UInt8) (k1 o1 : Int) (p1 q1 : List UInt8) (k1' n1 : Int) (t1 : List UInt8) (g1 : List PV) (rx : Rs)
    (ix : inI rx.v.n)
    (ex : pcall C (n + 9) 19 [vP (pE k1 o1 p1 q1 k1' n1 t1 g1), .flat (.val (.sl (some 3) row))] = rsO rx) :
    f19_vestryref13_Eval.l0 (pcall C (n + 9)) N (m + 2) row k o s1 s2 vk vn vt [pE k1 o1 p1 q1 k1' n1 t1 g1] (0 : Int) (0 : Int) ([] : List UInt8) (1 : Int) [] (0 : Int) = rsO (oneR k rx) := by
  unfold rsO at ex
  rw [rv_succ]
  unfold f19_vestryref13_Eval.l0.step
  simp only [show decide ((0 : Int) < 1) = true from rfl, show decide ((0 : Int) ≤ 0) = true from rfl, len1, needB_true, nth0, hasT35, cellsA, List.headD_cons, List.tail_cons, toI_int, toS_str, toL_sl, ex, callB_some, ok2325, fvF, pvF, w01, ifB_eq, if_true]
  by_cases hx0 : rx.e = 0
  · simp only [hx0, bne_self_eq_false, Bool.false_eq_true, if_false, ne_eq, not_true_eq_false, List.length_nil, List.length_cons, List.nil_append, show Nat.ble ((0 + (0 + 1)) * 32) 140737488355328 = true from rfl, show Nat.ble (0 + (0 + 1)) 9223372036854775807 = true from rfl, needB_true]
    rw [rv_succ]
    unfold f19_vestryref13_Eval.l0.step
    have e2 : oneR k rx = oneN k rx.v := by simp [oneR, hx0]
    rw [e2]
    simp only [len1, show decide ((1 : Int) < 1) = false from rfl, show ((1 : Int) == 2) = false from rfl, show decide ((0 : Int) < 1) = true from rfl, lb01, nth0', hasT23, ifB_eq, Bool.false_eq_true, if_false, if_true, s38 _ _ _ _ _ ix, callB_some, ok2325, needB_true, List.headD_cons, List.tail_cons, fvF, pvF, toI_int, toS_str, cellsA, Vl.eta, rsO]
  · simp only [bne_iff_ne, ne_eq, hx0, not_false_eq_true, if_true, rsO, oneR, nullV]
end Go.Proofs.Ytdmigcfokjobaaa

open Go Go.Ev

set_option linter.unusedSimpArgs false

set_option linter.unusedVariables false

set_option maxHeartbeats 2000000

namespace Go.Proofs.Ytdmigcfokjobaaa

theorem few_args {d : Nat} {k o : Int} {s1 s2 : List UInt8} {vk vn : Int} {vt : List UInt8} {gs : List PV} (hf : fewN (d + 1) (pE k o s1 s2 vk vn vt gs) = true) : ∀ x ∈ gs, fewN d x = true := by
  simp only [fewN, argsOf_pE, Bool.and_eq_true, List.all_eq_true] at hf
  exact hf.2
theorem evalN_3 (d : Nat) (o : Int) (s1 s2 : List UInt8) (vk vn : Int) (vt : List UInt8) (x y : PV) (row : List PV) : evalN (d + 1) (pE 3 o s1 s2 vk vn vt [x, y]) row = twoR o (evalN d x row) (evalN d y row) := by
  rw [evalN_pE]; rfl
theorem evalN_1 (d : Nat) (k o : Int) (s1 s2 : List UInt8) (vk vn : Int) (vt : List UInt8) (x : PV) (row : List PV) (h : k = 4 ∨ k = 5 ∨ k = 6) : evalN (d + 1) (pE k o s1 s2 vk vn vt [x]) row = oneR k (evalN d x row) := by
  rw [evalN_pE, if_neg (by omega), if_neg (by omega), if_neg (by omega), if_pos h]; rfl
theorem evalN_bad3 (d : Nat) (o : Int) (s1 s2 : List UInt8) (vk vn : Int) (vt : List UInt8) (gs : List PV) (row : List PV) (h : gs.length ≠ 2) : evalN (d + 1) (pE 3 o s1 s2 vk vn vt gs) row = ⟨nullV, 4⟩ := by
  rw [evalN_pE]
  match gs, h with
  | [], _ => rfl
  | [_], _ => rfl
  | [_, _], h => exact absurd rfl h
  | _ :: _ :: _ :: _, _ => rfl
theorem evalN_bad1 (d : Nat) (k o : Int) (s1 s2 : List UInt8) (vk vn : Int) (vt : List UInt8) (gs : List PV) (row : List PV) (hk : k = 4 ∨ k = 5 ∨ k = 6) (h : gs.length ≠ 1) : evalN (d + 1) (pE k o s1 s2 vk vn vt gs) row = ⟨nullV, 4⟩ := by
  rw [evalN_pE, if_neg (by omega), if_neg (by omega), if_neg (by omega), if_pos hk]
  match gs, h with
  | [], _ => rfl
  | [_], h => exact absurd rfl h
  | _ :: _ :: _, _ => rfl

theorem s15 (row : List PV) (hrow : ∀ x ∈ row, IsV x) : ∀ (d n : Nat) (e : PV), IsE e → fewN d e = true → pcall C (n + d + 10) 15 [vP e, .flat (.val (.sl (some 3) row))] = rsO (evalN d e row)
  | 0, n, e, he, hf => by cases hf
  | d + 1, n, e, he, hf => by
    obtain ⟨k, o, s1, s2, vk, vn, vt, gs, rfl, hn, ha⟩ := he.inv
    rw [pcall_step (by rfl), f15_eval_Eval_eq]
    unfold f15_eval_Eval f15_eval_Eval.pre
    have hfa := few_args hf
    have ih : ∀ x ∈ gs, pcall C (n + d + 1 + 9) 15 [vP x, .flat (.val (.sl (some 3) row))] = rsO (evalN d x row) := fun x hx => s15 row hrow d n x (ha x hx) (hfa x hx)
    have ii : ∀ x ∈ gs, inI (evalN d x row).v.n := fun x hx => eval_in row hrow d x (ha x hx)
    show ifB _ _ _ = _
    by_cases c1 : k = 1
    · subst c1
      rw [evalN_pE, if_pos rfl]
      simp only [beq_self_eq_true, ifB_eq, if_true, s33, callB_some, ok2325, needB_true, List.headD_cons, List.tail_cons, fvF, pvF, toI_int, toS_str, cellsA, rsO]
    by_cases c2 : k = 2
    · subst c2
      rw [evalN_pE, if_neg c1, if_pos rfl]
      by_cases h1 : vk = 1
      · by_cases h2 : 0 ≤ vn
        · by_cases h3 : vn < (row.length : Int)
          · have hlt : vn.toNat < row.length := by omega
            obtain ⟨k', n', t', hx, hi⟩ := hrow _ (List.getElem_mem hlt)
            have hg : vn ≥ 0 := h2
            rw [if_pos ⟨h1, h2, h3⟩]
            have hv : valOf (pV k' n' t') = ⟨k', n', t'⟩ := rfl
            simp only [show ((2 : Int) == 1) = false from rfl, show ((2 : Int) == 2) = true from rfl, Bool.false_eq_true, if_false, nthP_lt hlt, hx, h1, h2, h3, hg, hasT23, decide_true, beq_self_eq_true, ifB_eq, if_true, s33, callB_some, ok2325, needB_true, List.headD_cons, List.tail_cons, fvF, pvF, toI_int, toS_str, cellsA, rsO, hv]
          · have hg : vn ≥ 0 := h2
            rw [if_neg (by omega)]
            simp [h1, h2, h3, hg, nullV, rsO]
        · have hg : ¬ vn ≥ 0 := h2
          rw [if_neg (by omega)]
          simp [h1, h2, hg, nullV, rsO]
      · rw [if_neg (by omega)]
        simp [h1, nullV, rsO]
    have b1 : (k == 1) = false := by simpa using c1
    have b2 : (k == 2) = false := by simpa using c2
    rw [b1, b2]
    by_cases c3 : k = 3
    · subst c3
      by_cases hl : gs.length = 2
      · match gs, hl, ha, ih, ii with
        | [x, y], _, ha, ih, ii =>
          have ex := ih x (by simp)
          have ey := ih y (by simp)
          have ix := ii x (by simp)
          have iy := ii y (by simp)
          obtain ⟨k1, o1, p1, q1, k1', n1, t1, g1, hx, _, _⟩ := (ha x (by simp)).inv
          obtain ⟨k2, o2, p2, q2, k2', n2, t2, g2, hy, _, _⟩ := (ha y (by simp)).inv
          subst hx hy
          have := ev_two (n + d + 1) (n + d + 10) (n + d + 7) row 3 o s1 s2 vk vn vt k1 o1 p1 q1 k1' n1 t1 g1 k2 o2 p2 q2 k2' n2 t2 g2 _ _ ix iy ex ey
          rw [evalN_3]
          simp only [ifB_eq, Bool.false_eq_true, if_false, beq_self_eq_true, if_true, len2, show ((2 : Int) != 2) = false from rfl]
          exact this
      · have : ¬ (((gs.length : Nat) : Int) = 2) := by omega
        rw [evalN_bad3 _ _ _ _ _ _ _ _ _ hl]
        simp only [ifB_eq, Bool.false_eq_true, if_false, beq_self_eq_true, if_true, bne_iff_ne, ne_eq, this, not_false_eq_true, rsO, nullV]
    have b3 : (k == 3) = false := by simpa using c3
    rw [b3]
    by_cases c4 : k = 4 ∨ k = 5 ∨ k = 6
    · have key : ifB (((gs.length : Nat) : Int) != (1 : Int)) (some ([vV 0 0 [], vI 4], [])) (f15_eval_Eval.l0 (pcall C (n + (d + 1) + 9)) (n + (d + 1) + 9) (n + (d + 1) + 9) row k o s1 s2 vk vn vt gs (0 : Int) (0 : Int) ([] : List UInt8) (1 : Int) (0 : Int) (0 : Int) ([] : List UInt8) (0 : Int) (0 : Int) ([] : List UInt8) gs ((gs.length : Nat) : Int) (0 : Int)) = rsO (evalN (d + 1) (pE k o s1 s2 vk vn vt gs) row) := by
        by_cases hl : gs.length = 1
        · match gs, hl, ha, ih, ii with
          | [x], _, ha, ih, ii =>
            have ex := ih x (by simp)
            have ix := ii x (by simp)
            obtain ⟨k1, o1, p1, q1, k1', n1, t1, g1, hx, _, _⟩ := (ha x (by simp)).inv
            subst hx
            have := ev_one (n + d + 1) (n + d + 10) (n + d + 8) row k o s1 s2 vk vn vt k1 o1 p1 q1 k1' n1 t1 g1 _ ix ex
            rw [evalN_1 _ _ _ _ _ _ _ _ _ _ c4]
            simp only [ifB_eq, Bool.false_eq_true, if_false, len1, show ((1 : Int) != 1) = false from rfl]
            exact this
        · have : ¬ (((gs.length : Nat) : Int) = 1) := by omega
          rw [evalN_bad1 _ _ _ _ _ _ _ _ _ _ c4 hl]
          simp only [ifB_eq, bne_iff_ne, ne_eq, this, not_false_eq_true, if_true, rsO, nullV]
      rcases c4 with rfl | rfl | rfl
      · rw [show ((4 : Int) == 4) = true from rfl]
        exact key
      · rw [show ((5 : Int) == 4) = false from rfl, show ((5 : Int) == 5) = true from rfl]
        exact key
      · rw [show ((6 : Int) == 4) = false from rfl, show ((6 : Int) == 5) = false from rfl, show ((6 : Int) == 6) = true from rfl]
        exact key
    · rw [evalN_pE, if_neg c1, if_neg c2, if_neg c3, if_neg c4]
      have d4 : (k == 4) = false := by simp; omega
      have d5 : (k == 5) = false := by simp; omega
      have d6 : (k == 6) = false := by simp; omega
      rw [d4, d5, d6]
      rfl
theorem s19 (row : List PV) (hrow : ∀ x ∈ row, IsV x) : ∀ (d n : Nat) (e : PV), IsE e → fewN d e = true → pcall C (n + d + 10) 19 [vP e, .flat (.val (.sl (some 3) row))] = rsO (evalN d e row)
  | 0, n, e, he, hf => by cases hf
  | d + 1, n, e, he, hf => by
    obtain ⟨k, o, s1, s2, vk, vn, vt, gs, rfl, hn, ha⟩ := he.inv
    rw [pcall_step (by rfl), f19_vestryref13_Eval_eq]
    unfold f19_vestryref13_Eval f19_vestryref13_Eval.pre
    have hfa := few_args hf
    have ih : ∀ x ∈ gs, pcall C (n + d + 1 + 9) 19 [vP x, .flat (.val (.sl (some 3) row))] = rsO (evalN d x row) := fun x hx => s19 row hrow d n x (ha x hx) (hfa x hx)
    have ii : ∀ x ∈ gs, inI (evalN d x row).v.n := fun x hx => eval_in row hrow d x (ha x hx)
    show ifB _ _ _ = _
    by_cases c1 : k = 1
    · subst c1
      rw [evalN_pE, if_pos rfl]
      simp only [beq_self_eq_true, ifB_eq, if_true, s37, callB_some, ok2325, needB_true, List.headD_cons, List.tail_cons, fvF, pvF, toI_int, toS_str, cellsA, rsO]
    by_cases c2 : k = 2
    · subst c2
      rw [evalN_pE, if_neg c1, if_pos rfl]
      by_cases h1 : vk = 1
      · by_cases h2 : 0 ≤ vn
        · have hg : ¬ vn < 0 := by omega
          by_cases h3 : vn < (row.length : Int)
          · have hlt : vn.toNat < row.length := by omega
            obtain ⟨k', n', t', hx, hi⟩ := hrow _ (List.getElem_mem hlt)
            have hg2 : ¬ vn ≥ (row.length : Int) := by omega
            rw [if_pos ⟨h1, h2, h3⟩]
            have hv : valOf (pV k' n' t') = ⟨k', n', t'⟩ := rfl
            simp only [show ((2 : Int) == 1) = false from rfl, show ((2 : Int) == 2) = true from rfl, bne_self_eq_false, Bool.false_eq_true, if_false, decide_false, nthP_lt hlt, hx, h1, h2, h3, hg, hg2, hasT23, decide_true, beq_self_eq_true, ifB_eq, if_true, s37, callB_some, ok2325, needB_true, List.headD_cons, List.tail_cons, fvF, pvF, toI_int, toS_str, cellsA, rsO, hv]
          · have hg2 : vn ≥ (row.length : Int) := by omega
            rw [if_neg (by omega)]
            simp [h1, h2, h3, hg, hg2, nullV, rsO]
        · have hg : vn < 0 := by omega
          rw [if_neg (by omega)]
          simp [h1, h2, hg, nullV, rsO]
      · rw [if_neg (by omega)]
        simp [h1, nullV, rsO]
    have b1 : (k == 1) = false := by simpa using c1
    have b2 : (k == 2) = false := by simpa using c2
    rw [b1, b2]
    by_cases c3 : k = 3
    · subst c3
      by_cases hl : gs.length = 2
      · match gs, hl, ha, ih, ii with
        | [x, y], _, ha, ih, ii =>
          have ex := ih x (by simp)
          have ey := ih y (by simp)
          have ix := ii x (by simp)
          have iy := ii y (by simp)
          obtain ⟨k1, o1, p1, q1, k1', n1, t1, g1, hx, _, _⟩ := (ha x (by simp)).inv
          obtain ⟨k2, o2, p2, q2, k2', n2, t2, g2, hy, _, _⟩ := (ha y (by simp)).inv
          subst hx hy
          have := rv_two (n + d + 1) (n + d + 10) (n + d + 7) row 3 o s1 s2 vk vn vt k1 o1 p1 q1 k1' n1 t1 g1 k2 o2 p2 q2 k2' n2 t2 g2 _ _ ix iy ex ey
          rw [evalN_3]
          simp only [ifB_eq, Bool.false_eq_true, if_false, beq_self_eq_true, if_true, len2, show ((2 : Int) != 2) = false from rfl]
          exact this
      · have : ¬ (((gs.length : Nat) : Int) = 2) := by omega
        rw [evalN_bad3 _ _ _ _ _ _ _ _ _ hl]
        simp only [ifB_eq, Bool.false_eq_true, if_false, beq_self_eq_true, if_true, bne_iff_ne, ne_eq, this, not_false_eq_true, rsO, nullV]
    have b3 : (k == 3) = false := by simpa using c3
    rw [b3]
    by_cases c4 : k = 4 ∨ k = 5 ∨ k = 6
    · have key : ifB (((gs.length : Nat) : Int) != (1 : Int)) (some ([vV 0 0 [], vI 4], [])) (f19_vestryref13_Eval.l0 (pcall C (n + (d + 1) + 9)) (n + (d + 1) + 9) (n + (d + 1) + 9) row k o s1 s2 vk vn vt gs (0 : Int) (0 : Int) ([] : List UInt8) (1 : Int) [] (0 : Int)) = rsO (evalN (d + 1) (pE k o s1 s2 vk vn vt gs) row) := by
        by_cases hl : gs.length = 1
        · match gs, hl, ha, ih, ii with
          | [x], _, ha, ih, ii =>
            have ex := ih x (by simp)
            have ix := ii x (by simp)
            obtain ⟨k1, o1, p1, q1, k1', n1, t1, g1, hx, _, _⟩ := (ha x (by simp)).inv
            subst hx
            have := rv_one (n + d + 1) (n + d + 10) (n + d + 8) row k o s1 s2 vk vn vt k1 o1 p1 q1 k1' n1 t1 g1 _ ix ex
            rw [evalN_1 _ _ _ _ _ _ _ _ _ _ c4]
            simp only [ifB_eq, Bool.false_eq_true, if_false, len1, show ((1 : Int) != 1) = false from rfl]
            exact this
        · have : ¬ (((gs.length : Nat) : Int) = 1) := by omega
          rw [evalN_bad1 _ _ _ _ _ _ _ _ _ _ c4 hl]
          simp only [ifB_eq, bne_iff_ne, ne_eq, this, not_false_eq_true, if_true, rsO, nullV]
      rcases c4 with rfl | rfl | rfl
      · rw [show ((4 : Int) == 4) = true from rfl]
        exact key
      · rw [show ((5 : Int) == 4) = false from rfl, show ((5 : Int) == 5) = true from rfl]
        exact key
      · rw [show ((6 : Int) == 4) = false from rfl, show ((6 : Int) == 5) = false from rfl, show ((6 : Int) == 6) = true from rfl]
        exact key
    · rw [evalN_pE, if_neg c1, if_neg c2, if_neg c3, if_neg c4]
      have d4 : (k == 4) = false := by simp; omega
      have d5 : (k == 5) = false := by simp; omega
      have d6 : (k == 6) = false := by simp; omega
      rw [d4, d5, d6]
      rfl
end Go.Proofs.Ytdmigcfokjobaaa

open Go Go.Ev

set_option linter.unusedSimpArgs false

set_option linter.unusedVariables false

set_option maxHeartbeats 4000000

namespace Go.Proofs.Ytdmigcfokjobaaa

/-! ### three values -/
def ofT : Option Bool → Vl
  | none => nullV
  | some true => numV 1
  | some false => numV 0
def tr (v : Vl) : Option Bool := if v.k = 0 then none else some (v.n != 0)
def and3 : Option Bool → Option Bool → Option Bool
  | some false, _ => some false
  | _, some false => some false
  | none, _ => none
  | _, none => none
  | some true, some true => some true
def or3 : Option Bool → Option Bool → Option Bool
  | some true, _ => some true
  | _, some true => some true
  | none, _ => none
  | _, none => none
  | some false, some false => some false
def not3 : Option Bool → Option Bool
  | none => none
  | some b => some (!b)
structure LV (v : Vl) : Prop where
  r : rightN v = 0
  k : v.k ≠ 2
  i : inI v.n
theorem LV_ofT (x : Option Bool) : LV (ofT x) := by
  rcases x with _ | (_ | _) <;> exact ⟨by decide, by decide, by decide⟩
theorem tr_ofT (x : Option Bool) : tr (ofT x) = x := by
  rcases x with _ | (_ | _) <;> decide
theorem LV.cases {v : Vl} (h : LV v) : v = nullV ∨ ∃ n, v = numV n ∧ inI n := by
  obtain ⟨k, n, t⟩ := v
  have hr := h.r
  have hk := h.k
  have hi := h.i
  have hk' := right_kind hr
  dsimp only at hk hi hk'
  unfold rightN at hr
  dsimp only at hr
  have c : k = 0 ∨ k = 1 := by omega
  have e1 : ¬ (k < 0 ∨ k > 2) := by omega
  rw [if_neg e1] at hr
  rcases c with rfl | rfl
  · left
    by_cases hn : n = 0
    · subst hn
      by_cases ht : t = []
      · subst ht; rfl
      · simp [ht] at hr
    · simp [hn] at hr
  · right
    by_cases ht : t = []
    · subst ht; exact ⟨n, rfl, hi⟩
    · simp [ht] at hr
theorem op2_LV {a b : Vl} (ha : LV a) (hb : LV b) : opN 2 a b = ⟨ofT (and3 (tr a) (tr b)), 0⟩ := by
  unfold opN
  rw [if_neg (by simp [ha.r, hb.r]), if_pos (by decide)]
  unfold bothN
  rcases ha.cases with rfl | ⟨n, rfl, hn⟩ <;> rcases hb.cases with rfl | ⟨m, rfl, hm⟩
  · decide
  · by_cases h : m = 0 <;> simp [nullV, numV, tr, h, and3, ofT, bneI]
  · by_cases h : n = 0 <;> simp [nullV, numV, tr, h, and3, ofT, bneI]
  · by_cases h : n = 0 <;> by_cases h' : m = 0 <;> simp [nullV, numV, tr, h, h', and3, ofT, bneI]
theorem op1_LV {a b : Vl} (ha : LV a) (hb : LV b) : opN 1 a b = ⟨ofT (or3 (tr a) (tr b)), 0⟩ := by
  unfold opN
  rw [if_neg (by simp [ha.r, hb.r]), if_pos (by decide)]
  unfold bothN
  rcases ha.cases with rfl | ⟨n, rfl, hn⟩ <;> rcases hb.cases with rfl | ⟨m, rfl, hm⟩
  · decide
  · by_cases h : m = 0 <;> simp [nullV, numV, tr, h, or3, ofT, bneI, holdsN]
  · by_cases h : n = 0 <;> simp [nullV, numV, tr, h, or3, ofT, bneI, holdsN]
  · by_cases h : n = 0 <;> by_cases h' : m = 0 <;> simp [nullV, numV, tr, h, h', or3, ofT, bneI, holdsN]
theorem s12and (n : Nat) (a b : Vl) (ha : LV a) (hb : LV b) : pcall C (n + 10) 12 [vI 2, vV a.k a.n a.t, vV b.k b.n b.t] = some ([vV (ofT (and3 (tr a) (tr b))).k (ofT (and3 (tr a) (tr b))).n (ofT (and3 (tr a) (tr b))).t], []) := by
  rw [pcall_step (by rfl), f12_vestrylaw13_op_eq]
  unfold f12_vestrylaw13_op
  simp only [s9 _ _ _ _ _ _ _ _ ha.i hb.i, Vl.eta, op2_LV ha hb, callB_some, ok2325, needB_true, List.headD_cons, List.tail_cons, fvF, pvF, toI_int, toS_str, cellsA, bne_self_eq_false, ifB_eq, Bool.false_eq_true, if_false]
theorem s12or (n : Nat) (a b : Vl) (ha : LV a) (hb : LV b) : pcall C (n + 10) 12 [vI 1, vV a.k a.n a.t, vV b.k b.n b.t] = some ([vV (ofT (or3 (tr a) (tr b))).k (ofT (or3 (tr a) (tr b))).n (ofT (or3 (tr a) (tr b))).t], []) := by
  rw [pcall_step (by rfl), f12_vestrylaw13_op_eq]
  unfold f12_vestrylaw13_op
  simp only [s9 _ _ _ _ _ _ _ _ ha.i hb.i, Vl.eta, op1_LV ha hb, callB_some, ok2325, needB_true, List.headD_cons, List.tail_cons, fvF, pvF, toI_int, toS_str, cellsA, bne_self_eq_false, ifB_eq, Bool.false_eq_true, if_false]
theorem not_LV {a : Vl} (ha : LV a) (row : List PV) : evalN 2 (pE 4 0 [] [] 0 0 [] [pE 1 0 [] [] a.k a.n a.t []]) row = ⟨ofT (not3 (tr a)), 0⟩ := by
  rw [evalN_1 _ _ _ _ _ _ _ _ _ _ (.inl rfl), evalN_pE, if_pos rfl]
  have : knownN ⟨a.k, a.n, a.t⟩ = ⟨a, 0⟩ := by simp [knownN, Vl.eta, ha.r]
  rw [this]
  unfold oneR oneN
  rcases ha.cases with rfl | ⟨n, rfl, hn⟩
  · decide
  · have e : (n == 0) = decide (n = 0) := by by_cases h : n = 0 <;> simp [h]
    by_cases h : n = 0 <;> simp [numV, tr, h, not3, ofT, bneI, yesV, e]
theorem s13 (n : Nat) (a : Vl) (ha : LV a) : pcall C (n + 13) 13 [vV a.k a.n a.t] = some ([vV (ofT (not3 (tr a))).k (ofT (not3 (tr a))).n (ofT (not3 (tr a))).t], []) := by
  rw [pcall_step (by rfl), f13_vestrylaw13_not_eq]
  unfold f13_vestrylaw13_not
  have hE : IsE (pE 4 0 [] [] 0 0 [] [pE 1 0 [] [] a.k a.n a.t []]) := .mk _ _ _ _ _ _ _ _ (by decide) (by
    intro x hx
    simp only [List.mem_singleton] at hx
    subst hx
    exact .mk _ _ _ _ _ _ _ _ ha.i (by simp))
  have h := s15 [] (by simp) 2 n _ hE (by simp [fewN, argsOf_pE])
  rw [not_LV ha] at h
  have h' : pcall C (n + 12) 15 [vP (pE 4 0 [] [] 0 0 [] [pE 1 0 [] [] a.k a.n a.t []]), .flat (.val (.sl (some 3) []))] = _ := h
  simp only [h', rsO, callB_some, ok2325, needB_true, List.headD_cons, List.tail_cons, fvF, pvF, toI_int, toS_str, cellsA, bne_self_eq_false, ifB_eq, Bool.false_eq_true, if_false]
theorem same_T (x y : Option Bool) : (((ofT x).k == (ofT y).k) && (((ofT x).n == (ofT y).n) && (((ofT x).t == (ofT y).t) && true))) = decide (x = y) := by
  rcases x with _ | (_ | _) <;> rcases y with _ | (_ | _) <;> decide
theorem t_comm (x y : Option Bool) : decide (and3 x y = and3 y x) = true := by
  rcases x with _ | (_ | _) <;> rcases y with _ | (_ | _) <;> decide
theorem t_comm' (x y : Option Bool) : decide (or3 x y = or3 y x) = true := by
  rcases x with _ | (_ | _) <;> rcases y with _ | (_ | _) <;> decide
theorem t_assoc (x y z : Option Bool) : decide (and3 (and3 x y) z = and3 x (and3 y z)) = true := by
  rcases x with _ | (_ | _) <;> rcases y with _ | (_ | _) <;> rcases z with _ | (_ | _) <;> decide
theorem t_assoc' (x y z : Option Bool) : decide (or3 (or3 x y) z = or3 x (or3 y z)) = true := by
  rcases x with _ | (_ | _) <;> rcases y with _ | (_ | _) <;> rcases z with _ | (_ | _) <;> decide
theorem t_not (x y : Option Bool) : decide (not3 (and3 x y) = or3 (not3 x) (not3 y)) = true := by
  rcases x with _ | (_ | _) <;> rcases y with _ | (_ | _) <;> decide
theorem t_not' (x y : Option Bool) : decide (not3 (or3 x y) = and3 (not3 x) (not3 y)) = true := by
  rcases x with _ | (_ | _) <;> rcases y with _ | (_ | _) <;> decide
theorem t_abs (x y : Option Bool) : decide (and3 x (or3 x y) = and3 x x) = true := by
  rcases x with _ | (_ | _) <;> rcases y with _ | (_ | _) <;> decide
theorem t_abs' (x y : Option Bool) : decide (or3 x (and3 x y) = or3 x x) = true := by
  rcases x with _ | (_ | _) <;> rcases y with _ | (_ | _) <;> decide
theorem s4 (n : Nat) (a b c : Vl) (ia : inI a.n) (ib : inI b.n) (ic : inI c.n) : pcall C (n + 14) 4 [vV a.k a.n a.t, vV b.k b.n b.t, vV c.k c.n c.t] = some ([vB true], []) := by
  rw [pcall_step (by rfl), f4_vestrylaw13_EvalLogic_eq]
  unfold f4_vestrylaw13_EvalLogic
  simp only [s8, s11, callB_some, ok4, ok25, needB_true, List.headD_cons, List.tail_cons, fvF, pvF, toI_int, toB_bool, Vl.eta]
  by_cases c1 : rightN a = 0
  · by_cases c2 : rightN b = 0
    · by_cases c3 : rightN c = 0
      · by_cases k1 : a.k = 2
        · simp only [c1, c2, c3, k1, bne_self_eq_false, beq_self_eq_true, ifB_eq (b := true), ifB_eq (b := false), Bool.false_eq_true, if_false, if_true]
        by_cases k2 : b.k = 2
        · have q1 : (a.k == 2) = false := by simpa using k1
          simp only [c1, c2, c3, q1, k2, bne_self_eq_false, beq_self_eq_true, ifB_eq (b := true), ifB_eq (b := false), Bool.false_eq_true, if_false, if_true]
        by_cases k3 : c.k = 2
        · have q1 : (a.k == 2) = false := by simpa using k1
          have q2 : (b.k == 2) = false := by simpa using k2
          simp only [c1, c2, c3, q1, q2, k3, bne_self_eq_false, beq_self_eq_true, ifB_eq (b := true), ifB_eq (b := false), Bool.false_eq_true, if_false, if_true]
        have q1 : (a.k == 2) = false := by simpa using k1
        have q2 : (b.k == 2) = false := by simpa using k2
        have q3 : (c.k == 2) = false := by simpa using k3
        have la : LV a := ⟨c1, k1, ia⟩
        have lb : LV b := ⟨c2, k2, ib⟩
        have lc : LV c := ⟨c3, k3, ic⟩
        simp only [c1, c2, c3, q1, q2, q3, bne_self_eq_false, ifB_eq (b := false), Bool.false_eq_true, if_false]
        simp only [s12and, s12or, s13, la, lb, lc, LV_ofT, tr_ofT, callB_some, ok4, ok23, needB_true, List.headD_cons, List.tail_cons, fvF, pvF, toI_int, toB_bool, toS_str, cellsA, Vl.eta, same_T, t_comm, t_comm', t_assoc, t_assoc', t_not, t_not', t_abs, t_abs', ifB_eq (b := true), if_true]
      · have q3 : (rightN c != 0) = true := by simpa using c3
        simp only [c1, c2, q3, bne_self_eq_false, ifB_eq (b := true), ifB_eq (b := false), Bool.false_eq_true, if_false, if_true]
    · have q3 : (rightN b != 0) = true := by simpa using c2
      simp only [c1, q3, bne_self_eq_false, ifB_eq (b := true), ifB_eq (b := false), Bool.false_eq_true, if_false, if_true]
  · have q3 : (rightN a != 0) = true := by simpa using c1
    simp only [q3, ifB_eq (b := true), ifB_eq (b := false), Bool.false_eq_true, if_false, if_true]
end Go.Proofs.Ytdmigcfokjobaaa

open Go Go.Ev

set_option linter.unusedSimpArgs false

set_option linter.unusedVariables false

set_option maxHeartbeats 4000000

namespace Go.Proofs.Ytdmigcfokjobaaa

def trueN (r : Rs) : Bool × Int := if r.e = 0 ∧ r.v.k = 2 then (false, 9) else (r.e == 0 && holdsN r.v, r.e)
theorem s18 (row : List PV) (hrow : ∀ x ∈ row, IsV x) (d n : Nat) (e : PV) (he : IsE e) (hf : fewN d e = true) : pcall C (n + d + 11) 18 [vP e, .flat (.val (.sl (some 3) row))] = some ([vB (trueN (evalN d e row)).1, vI (trueN (evalN d e row)).2], []) := by
  have h := s15 row hrow d n e he hf
  obtain ⟨k, o, s1, s2, vk, vn, vt, gs, rfl, hn, ha⟩ := he.inv
  rw [pcall_step (by rfl), f18_eval_True_eq]
  unfold f18_eval_True
  generalize evalN d (pE k o s1 s2 vk vn vt gs) row = r at h ⊢
  unfold rsO at h
  simp only [h, callB_some, ok2325, needB_true, List.headD_cons, List.tail_cons, fvF, pvF, toI_int, toS_str, cellsA, ifB_eq, s36, ok4, toB_bool, Vl.eta, trueN]
  by_cases c1 : r.e = 0
  · by_cases c2 : r.v.k = 2 <;> simp [c1, c2]
  · simp [c1]
theorem s20 (row : List PV) (hrow : ∀ x ∈ row, IsV x) (d n : Nat) (e : PV) (he : IsE e) (hf : fewN d e = true) : pcall C (n + d + 11) 20 [vP e, .flat (.val (.sl (some 3) row))] = some ([vB (trueN (evalN d e row)).1, vI (trueN (evalN d e row)).2], []) := by
  have h := s19 row hrow d n e he hf
  obtain ⟨k, o, s1, s2, vk, vn, vt, gs, rfl, hn, ha⟩ := he.inv
  rw [pcall_step (by rfl), f20_vestryref13_True_eq]
  unfold f20_vestryref13_True
  generalize evalN d (pE k o s1 s2 vk vn vt gs) row = r at h ⊢
  unfold rsO at h
  simp only [h, callB_some, ok2325, needB_true, List.headD_cons, List.tail_cons, fvF, pvF, toI_int, toS_str, cellsA, ifB_eq, s39, ok4, toB_bool, Vl.eta, trueN]
  by_cases c1 : r.e = 0
  · by_cases c2 : r.v.k = 2 <;> simp [c1, c2]
  · simp [c1]
theorem same_loop (rec : Rec) (n : Nat) (xs : List PV) (hV : ∀ x ∈ xs, IsV x) (hlen : xs.length ≤ 9223372036854775806) :
    ∀ (m i : Nat), xs.length < m + i → i ≤ xs.length → f21_vestryref07_Same.l0 rec n m xs xs (i : Int) = some ([vB true], [])
  | 0, i, h1, h2 => by omega
  | m + 1, i, h1, h2 => by
    show f21_vestryref07_Same.l0.step rec n (f21_vestryref07_Same.l0 rec n m) xs xs (i : Int) = _
    unfold f21_vestryref07_Same.l0.step
    by_cases hi : i < xs.length
    · obtain ⟨k, n', t, he, _⟩ := hV xs[i] (List.getElem_mem hi)
      have w := wrap_nat i (by omega)
      have c1 : ((i : Int) < (xs.length : Int)) := by omega
      have c2 : (0 : Int) ≤ (i : Int) := by omega
      have ih := same_loop rec n xs hV hlen m (i + 1) (by omega) (by omega)
      simp only [c1, c2, decide_true, needB_true, Int.toNat_natCast, nthP_lt hi, he, hasT23, beq_self_eq_true, Bool.and_true, Bool.not_true, w, ih, ifB_eq, if_true, Bool.false_eq_true, if_false]
    · have c1 : ¬ ((i : Int) < (xs.length : Int)) := by omega
      simp only [c1, decide_false, ifB_eq, Bool.false_eq_true, if_false]
theorem s21 (xs : List PV) (hV : ∀ x ∈ xs, IsV x) (hlen : xs.length ≤ 9223372036854775806) (n : Nat) (hn : xs.length < n) : pcall C (n + 1) 21 [.flat (.val (.sl (some 3) xs)), .flat (.val (.sl (some 3) xs))] = some ([vB true], []) := by
  rw [pcall_step (by rfl), f21_vestryref07_Same_eq]
  unfold f21_vestryref07_Same f21_vestryref07_Same.pre
  have h := same_loop (pcall C n) n xs hV hlen n 0 (by omega) (by omega)
  simp only [bne_self_eq_false, ifB_eq, Bool.false_eq_true, if_false]
  exact h
theorem exprs_loop (rec : Rec) (n : Nat) (xs : List PV) (hV : ∀ x ∈ xs, IsE x) (hlen : xs.length ≤ 3) (hr : ∀ x ∈ xs, rec 16 [vP x, vP x] = some ([vB true], [])) :
    ∀ (m i : Nat), xs.length < m + i → i ≤ xs.length → f35_vestryref09_SameExprs.l0 rec n m xs xs (i : Int) = some ([vB true], [])
  | 0, i, h1, h2 => by omega
  | m + 1, i, h1, h2 => by
    show f35_vestryref09_SameExprs.l0.step rec n (f35_vestryref09_SameExprs.l0 rec n m) xs xs (i : Int) = _
    unfold f35_vestryref09_SameExprs.l0.step
    by_cases hi : i < xs.length
    · have hr := hr xs[i] (List.getElem_mem hi)
      obtain ⟨k', o', s1', s2', vk', vn', vt', gs', he, _, _⟩ := (hV xs[i] (List.getElem_mem hi)).inv
      have w := wrap_nat i (by omega)
      have c1 : ((i : Int) < (xs.length : Int)) := by omega
      have c2 : (0 : Int) ≤ (i : Int) := by omega
      have ih := exprs_loop rec n xs hV hlen ‹_› m (i + 1) (by omega) (by omega)
      rw [he] at hr
      simp only [c1, c2, decide_true, needB_true, Int.toNat_natCast, nthP_lt hi, he, hasT35, cellsA, List.headD_cons, List.tail_cons, toI_int, toS_str, toL_sl, hr, callB_some, ok4, fvF, pvF, toB_bool, w, ih, ifB_eq, if_true, Bool.not_true, Bool.false_eq_true, if_false]
    · have c1 : ¬ ((i : Int) < (xs.length : Int)) := by omega
      simp only [c1, decide_false, ifB_eq, Bool.false_eq_true, if_false]
theorem s16 : ∀ (d n : Nat) (e : PV), IsE e → fewN d e = true → pcall C (n + 2 * d + 6) 16 [vP e, vP e] = some ([vB true], [])
  | 0, n, e, he, hf => by cases hf
  | d + 1, n, e, he, hf => by
    obtain ⟨k, o, s1, s2, vk, vn, vt, gs, rfl, hn, ha⟩ := he.inv
    have hfa := few_args hf
    have hl : gs.length ≤ 3 := by
      simp only [fewN, argsOf_pE, Bool.and_eq_true, decide_eq_true_eq] at hf
      exact of_decide_eq_true hf.1
    have ih : ∀ x ∈ gs, pcall C (n + 2 * d + 6) 16 [vP x, vP x] = some ([vB true], []) := fun x hx => s16 d n x (ha x hx) (hfa x hx)
    have h35 : pcall C (n + 2 * d + 7) 35 [.flat (.val (.sl (some 8) gs)), .flat (.val (.sl (some 8) gs))] = some ([vB true], []) := by
      rw [pcall_step (by rfl), f35_vestryref09_SameExprs_eq]
      unfold f35_vestryref09_SameExprs f35_vestryref09_SameExprs.pre
      have h := exprs_loop (pcall C (n + 2 * d + 6)) (n + 2 * d + 6) gs ha hl ih (n + 2 * d + 6) 0 (by omega) (by omega)
      simp only [bne_self_eq_false, ifB_eq, Bool.false_eq_true, if_false]
      exact h
    have h35' : pcall C (n + 2 * (d + 1) + 5) 35 [.flat (.val (.sl (some 8) gs)), .flat (.val (.sl (some 8) gs))] = some ([vB true], []) := h35
    rw [pcall_step (by rfl), f16_vestryref09_SameExpr_eq]
    unfold f16_vestryref09_SameExpr
    simp only [beq_self_eq_true, Bool.and_true, ifB_eq, if_true, h35', callB_some, ok4, needB_true, List.headD_cons, fvF, pvF, toB_bool]
theorem opn_null (o : Int) (v : Vl) (hv : rightN v = 0) (ho : 3 ≤ o ∧ o ≤ 13) : opN o ⟨0, 0, []⟩ v = ⟨⟨0, 0, []⟩, 0⟩ ∧ opN o v ⟨0, 0, []⟩ = ⟨⟨0, 0, []⟩, 0⟩ := by
  have r0 : rightN ⟨0, 0, []⟩ = 0 := by decide
  unfold opN
  rw [if_neg (by simp [hv, r0]; omega), if_neg (by omega), if_pos (.inl rfl), if_neg (by simp [hv, r0]; omega), if_neg (by omega), if_pos (.inr rfl)]
  exact ⟨rfl, rfl⟩
theorem s6 (n : Nat) (o : Int) (v : Vl) (iv : inI v.n) : pcall C (n + 14) 6 [vI o, vV v.k v.n v.t] = some ([vB true], []) := by
  rw [pcall_step (by rfl), f6_vestrylaw13_EvalNulls_eq]
  unfold f6_vestrylaw13_EvalNulls
  simp only [s8, s11, callB_some, ok4, ok25, needB_true, List.headD_cons, List.tail_cons, fvF, pvF, toI_int, toB_bool, Vl.eta]
  by_cases c1 : rightN v = 0
  · by_cases c2 : o < 3
    · simp only [c1, c2, decide_true, bne_self_eq_false, ifB_eq (b := true), ifB_eq (b := false), Bool.false_eq_true, if_false, if_true]
    by_cases c3 : o > 13
    · simp only [c1, c2, c3, decide_true, decide_false, bne_self_eq_false, ifB_eq (b := true), ifB_eq (b := false), Bool.false_eq_true, if_false, if_true]
    have ho : 3 ≤ o ∧ o ≤ 13 := by omega
    have i0 : inI 0 := by decide
    obtain ⟨e1, e2⟩ := opn_null o v c1 ho
    have hE : IsE (pE 6 0 [] [] 0 0 [] [pE 1 0 [] [] v.k v.n v.t []]) := .mk _ _ _ _ _ _ _ _ (by decide) (by
      intro x hx
      simp only [List.mem_singleton] at hx
      subst hx
      exact .mk _ _ _ _ _ _ _ _ iv (by simp))
    have h := s15 [] (by simp) 2 (n + 1) _ hE (by simp [fewN, argsOf_pE])
    have e3 : evalN 2 (pE 6 0 [] [] 0 0 [] [pE 1 0 [] [] v.k v.n v.t []]) [] = ⟨yesV (v.k == 0), 0⟩ := by
      rw [evalN_1 _ _ _ _ _ _ _ _ _ _ (.inr (.inr rfl)), evalN_pE, if_pos rfl]
      have : knownN ⟨v.k, v.n, v.t⟩ = ⟨v, 0⟩ := by simp [knownN, Vl.eta, c1]
      rw [this]
      rfl
    rw [e3] at h
    have h' : pcall C (n + 13) 15 [vP (pE 6 0 [] [] 0 0 [] [pE 1 0 [] [] v.k v.n v.t []]), .flat (.val (.sl (some 3) []))] = _ := h
    simp only [c1, c2, c3, decide_false, bne_self_eq_false, ifB_eq (b := false), Bool.false_eq_true, if_false, s9 _ o 0 0 [] v.k v.n v.t i0 iv, s9 _ o v.k v.n v.t 0 0 [] iv i0, Vl.eta, e1, e2, h', rsO, s17, callB_some, ok23, ok2325, needB_true, List.headD_cons, List.tail_cons, fvF, pvF, toI_int, toS_str, cellsA, beq_self_eq_true, Bool.and_true, ifB_eq (b := true), if_true]
    have r := right_kind c1
    by_cases k0 : v.k = 0
    · have hv : v = nullV := by
        obtain ⟨k, m, t⟩ := v
        dsimp only at k0
        subst k0
        unfold rightN at c1
        dsimp only at c1
        by_cases hm : m = 0
        · by_cases ht : t = []
          · subst hm ht; rfl
          · simp [ht] at c1
        · simp [hm] at c1
      subst hv
      simp [nullV, yesV]
    · have : (v.k == 0) = false := by simpa using k0
      simp [this, yesV]
  · have q3 : (rightN v != 0) = true := by simpa using c1
    simp only [q3, ifB_eq (b := true), ifB_eq (b := false), Bool.false_eq_true, if_false, if_true]
end Go.Proofs.Ytdmigcfokjobaaa

open Go Go.Ev

set_option linter.unusedSimpArgs false

set_option linter.unusedVariables false

set_option maxHeartbeats 4000000

namespace Go.Proofs.Ytdmigcfokjobaaa

theorem ble_small (a b : Nat) (h : a + b ≤ 4000000) : Nat.ble ((a + b) * 32) 140737488355328 = true ∧ Nat.ble (a + b) 9223372036854775807 = true := by
  rw [Nat.ble_eq, Nat.ble_eq]; omega
theorem s7 (n : Nat) (e : PV) (row : List PV) (he : IsE e) (hrow : ∀ x ∈ row, IsV x) (hlen : row.length ≤ 2000000) (hn : 40 + row.length ≤ n) : pcall C (n + 1) 7 [vP e, .flat (.val (.sl (some 3) row))] = some ([vB true], []) := by
  obtain ⟨m, rfl⟩ : ∃ m, n = m + 30 := ⟨n - 30, by omega⟩
  have h14 := s14 12 (m + 12) e he (by omega)
  have h14' : pcall C (m + 30) 14 [vP e, vI 12] = some ([vB (fewN 12 e)], []) := h14
  have h15 : fewN 12 e = true → pcall C (m + 30) 15 [vP e, .flat (.val (.sl (some 3) row))] = rsO (evalN 12 e row) := fun hf => s15 row hrow 12 (m + 8) e he hf
  have h19 : fewN 12 e = true → pcall C (m + 30) 19 [vP e, .flat (.val (.sl (some 3) row))] = rsO (evalN 12 e row) := fun hf => s19 row hrow 12 (m + 8) e he hf
  have h18 : fewN 12 e = true → pcall C (m + 30) 18 [vP e, .flat (.val (.sl (some 3) row))] = some ([vB (trueN (evalN 12 e row)).1, vI (trueN (evalN 12 e row)).2], []) := fun hf => s18 row hrow 12 (m + 7) e he hf
  have h20 : fewN 12 e = true → pcall C (m + 30) 20 [vP e, .flat (.val (.sl (some 3) row))] = some ([vB (trueN (evalN 12 e row)).1, vI (trueN (evalN 12 e row)).2], []) := fun hf => s20 row hrow 12 (m + 7) e he hf
  have h21 : pcall C (m + 30) 21 [.flat (.val (.sl (some 3) row)), .flat (.val (.sl (some 3) row))] = some ([vB true], []) := s21 row hrow (by omega) (m + 29) (by omega)
  have h8 : pcall C (m + 30) 8 [] = some ([vB true], []) := s8 (m + 20)
  have hb := ble_small 0 row.length (by omega)
  obtain ⟨k, o, s1, s2, vk, vn, vt, gs, rfl, hn, ha⟩ := he.inv
  rw [pcall_step (by rfl), f7_vestrylaw13_EvalTells_eq]
  unfold f7_vestrylaw13_EvalTells
  simp only [h8, h14', callB_some, ok4, needB_true, List.headD_cons, fvF, pvF, toB_bool]
  by_cases hf : fewN 12 (pE k o s1 s2 vk vn vt gs) = true
  · have a15 := h15 hf
    have a18 := h18 hf
    have a19 := h19 hf
    have a20 := h20 hf
    simp only [rsO] at a15 a19
    simp only [hf, Bool.not_true, ifB_eq (b := false), Bool.false_eq_true, if_false, List.length_nil, hb.1, hb.2, List.nil_append, a15, a18, a19, a20, h21, callB_some, ok4, ok2325, ok425, needB_true, List.headD_cons, List.tail_cons, fvF, pvF, toI_int, toS_str, toB_bool, cellsA, beq_self_eq_true, Bool.and_true, ifB_eq (b := true), if_true]
  · have : fewN 12 (pE k o s1 s2 vk vn vt gs) = false := by simpa using hf
    simp only [this, Bool.not_false, ifB_eq (b := true), if_true]
theorem eval_more (row more : List PV) : ∀ (d : Nat) (e : PV), IsE e → (evalN d e row).e = 12 ∨ evalN d e (row ++ more) = evalN d e row
  | 0, e, he => .inr rfl
  | d + 1, e, he => by
    obtain ⟨k, o, s1, s2, vk, vn, vt, gs, rfl, hn, ha⟩ := he.inv
    by_cases c1 : k = 1
    · right
      rw [evalN_pE, evalN_pE, if_pos c1, if_pos c1]
    by_cases c2 : k = 2
    · rw [evalN_pE, evalN_pE, if_neg c1, if_neg c1, if_pos c2, if_pos c2]
      by_cases h : vk = 1 ∧ 0 ≤ vn ∧ vn < (row.length : Int)
      · right
        have hlt : vn.toNat < row.length := by omega
        have hlt' : vn.toNat < (row ++ more).length := by simp; omega
        rw [if_pos h, if_pos ⟨h.1, h.2.1, by simp; omega⟩, nthP_lt hlt, nthP_lt hlt', List.getElem_append_left hlt]
      · left
        rw [if_neg h]
    by_cases c3 : k = 3
    · subst c3
      by_cases hl : gs.length = 2
      · match gs, hl, ha with
        | [x, y], _, ha =>
          rw [evalN_3, evalN_3]
          rcases eval_more row more d x (ha x (by simp)) with hx | hx
          · left
            simp [twoR, hx]
          · rw [hx]
            by_cases h1 : (evalN d x row).e = 0
            · rcases eval_more row more d y (ha y (by simp)) with hy | hy
              · left
                simp [twoR, h1, hy]
              · right
                rw [hy]
            · right
              simp [twoR, h1]
      · right
        rw [evalN_bad3 _ _ _ _ _ _ _ _ _ hl, evalN_bad3 _ _ _ _ _ _ _ _ _ hl]
    by_cases c4 : k = 4 ∨ k = 5 ∨ k = 6
    · by_cases hl : gs.length = 1
      · match gs, hl, ha with
        | [x], _, ha =>
          rw [evalN_1 _ _ _ _ _ _ _ _ _ _ c4, evalN_1 _ _ _ _ _ _ _ _ _ _ c4]
          rcases eval_more row more d x (ha x (by simp)) with hx | hx
          · left
            unfold oneR
            rw [if_pos (by omega)]
            exact hx
          · right
            rw [hx]
      · right
        rw [evalN_bad1 _ _ _ _ _ _ _ _ _ _ c4 hl, evalN_bad1 _ _ _ _ _ _ _ _ _ _ c4 hl]
    · right
      rw [evalN_pE, evalN_pE, if_neg c1, if_neg c1, if_neg c2, if_neg c2, if_neg c3, if_neg c3, if_neg c4, if_neg c4]
theorem s5 (m : Nat) (e : PV) (row more : List PV) (he : IsE e) (hrow : ∀ x ∈ row, IsV x) (hmore : ∀ x ∈ more, IsV x) (hlen : row.length + more.length ≤ 2000000) : pcall C (m + 31) 5 [vP e, .flat (.val (.sl (some 3) row)), .flat (.val (.sl (some 3) more))] = some ([vB true], []) := by
  have h14' : pcall C (m + 30) 14 [vP e, vI 12] = some ([vB (fewN 12 e)], []) := s14 12 (m + 12) e he (by omega)
  have h15 : fewN 12 e = true → pcall C (m + 30) 15 [vP e, .flat (.val (.sl (some 3) row))] = rsO (evalN 12 e row) := fun hf => s15 row hrow 12 (m + 8) e he hf
  have hboth : ∀ x ∈ row ++ more, IsV x := by
    intro x hx
    rcases List.mem_append.1 hx with hx | hx
    · exact hrow x hx
    · exact hmore x hx
  have h15b : fewN 12 e = true → pcall C (m + 30) 15 [vP e, .flat (.val (.sl (some 3) (row ++ more)))] = rsO (evalN 12 e (row ++ more)) := fun hf => s15 _ hboth 12 (m + 8) e he hf
  have h16 : fewN 12 e = true → pcall C (m + 30) 16 [vP e, vP e] = some ([vB true], []) := fun hf => s16 12 m e he hf
  have h8 : pcall C (m + 30) 8 [] = some ([vB true], []) := s8 (m + 20)
  have hb := ble_small 0 row.length (by omega)
  have hb2 := ble_small row.length more.length (by omega)
  have hm := eval_more row more 12 e he
  obtain ⟨k, o, s1, s2, vk, vn, vt, gs, rfl, hn, ha⟩ := he.inv
  rw [pcall_step (by rfl), f5_vestrylaw13_EvalRows_eq]
  unfold f5_vestrylaw13_EvalRows
  simp only [h8, h14', callB_some, ok4, needB_true, List.headD_cons, fvF, pvF, toB_bool]
  by_cases hf : fewN 12 (pE k o s1 s2 vk vn vt gs) = true
  · have a15 := h15 hf
    have b15 := h15b hf
    have a16 := h16 hf
    simp only [rsO] at a15 b15
    simp only [hf, Bool.not_true, ifB_eq (b := false), Bool.false_eq_true, if_false, List.length_nil, hb.1, hb.2, hb2.1, hb2.2, List.nil_append, a15, b15, a16, callB_some, ok4, ok2325, needB_true, List.headD_cons, List.tail_cons, fvF, pvF, toI_int, toS_str, toB_bool, cellsA, ifB_eq (b := true), if_true]
    rcases hm with hm | hm
    · simp only [hm, beq_self_eq_true, ifB_eq (b := true), if_true]
    · rw [hm]
      by_cases c : (evalN 12 (pE k o s1 s2 vk vn vt gs) row).e = 12
      · simp only [c, beq_self_eq_true, ifB_eq (b := true), if_true]
      · have c' : ((evalN 12 (pE k o s1 s2 vk vn vt gs) row).e == 12) = false := by simpa using c
        simp only [c', beq_self_eq_true, Bool.and_true, ifB_eq (b := true), ifB_eq (b := false), Bool.false_eq_true, if_true, if_false]
  · have : fewN 12 (pE k o s1 s2 vk vn vt gs) = false := by simpa using hf
    simp only [this, Bool.not_false, ifB_eq (b := true), if_true]
end Go.Proofs.Ytdmigcfokjobaaa

