/- What the functions answer, and the laws. -/
import Derived.Test.YtgcjhapomljekaaDoorSi

set_option linter.unusedVariables false

set_option linter.unusedSimpArgs false

set_option linter.unusedSectionVars false

open Go Go.Ev

set_option linter.unusedSimpArgs false

set_option linter.unusedVariables false

namespace Go.Proofs.YtgcjhapomljekaaDoor

abbrev vI (n : Int) : OV := .flat (.val (.int .i64 n))
abbrev vB (b : Bool) : OV := .flat (.val (.bool b))
abbrev bb (l : List UInt8) : List PV := l.map pvByte
abbrev vO (l : List UInt8) : OV := .flat (.own none (bb l) [])
abbrev vR (l : List UInt8) : OV := .flat (.val (.sl none (bb l)))

theorem needB_true {α : Type} (x : Option α) : needB true x = x := by
  have h : ∀ b : Bool, b = true → needB b x = x := by
    intro b hb
    subst hb
    rfl
  exact h true rfl
theorem ifB_eq {α : Type} (b : Bool) (x y : Option α) : ifB b x y = if b = true then x else y := by cases b <;> rfl
theorem callB_some {α β : Type} (a : α) (k : α → Option β) : callB (some a) k = k a := by
  have h : ∀ r : Option α, r = some a → callB r k = k a := by
    intro r hr
    subst hr
    rfl
  exact h _ rfl
theorem frzM_nil (r : Option (List OV × List OV)) : frzM [] r = r := by
  cases r with
  | none => rfl
  | some r => cases r with | mk a b => simp [frzM, frzR]
theorem pcall_step {n : Nat} {f : FuncId} {args : List OV} (h : C.prim f = none) (hf : C.frz f = []) : pcall C (n + 1) f args = callBody C (pcall C n) n f args := by
  show (match C.prim f with
    | some p => p args
    | none => frzM (C.frz f) (callBody C (pcall C n) n f args)) = _
  rw [h, hf]
  exact frzM_nil _
theorem pcall_prim {n : Nat} {f : FuncId} {args : List OV} {p : List OV → Option (List OV × List OV)} (h : C.prim f = some p) : pcall C (n + 1) f args = p args := by
  show (match C.prim f with
    | some p => p args
    | none => frzM (C.frz f) (callBody C (pcall C n) n f args)) = _
  rw [h]
theorem fvF (f : FV) : OV.fv (.flat f) = f := rfl
theorem pvF (v : PV) : FV.pv (.val v) = v := rfl
theorem xsO (sh : Option Nat) (l sp : List PV) : FV.xs (.own sh l sp) = l := rfl
theorem toI_int (k : IntKind) (n : Int) : PV.toI (.int k n) = n := rfl
theorem toB_bool (b : Bool) : PV.toB (.bool b) = b := rfl
theorem toL_sl (sh : Option Nat) (b : List PV) : PV.toL (.sl sh b) = b := rfl
theorem hasT5 (b : UInt8) : hasT Go.Proofs.Tryd.prog 5 (pvByte b) = true := by kernel_rfl
theorem all5 (l : List UInt8) : (bb l).all (hasT Go.Proofs.Tryd.prog 5) = true := by
  simp [List.all_eq_true, hasT5]
theorem row22 (l : List UInt8) : okRow Go.Proofs.Tryd.prog 30 (bb l) [] = true := by
  have h1 : tElem Go.Proofs.Tryd.prog 30 = some 5 := by kernel_rfl
  unfold okRow
  rw [h1]
  dsimp only
  split
  · rw [all5]; rfl
  · rfl
theorem okO22 (l : List UInt8) : okO Go.Proofs.Tryd.prog 30 .o (vO l) = true := by
  have h1 : elemShape Go.Proofs.Tryd.prog 30 = none := by kernel_rfl
  show (shEq (elemShape Go.Proofs.Tryd.prog 30) none && okRow Go.Proofs.Tryd.prog 30 (bb l) []) = true
  rw [h1, row22]; rfl
theorem okI3 (n : Int) : okO Go.Proofs.Tryd.prog 3 .v (vI n) = true := by kernel_rfl
theorem okI25 (n : Int) : okO Go.Proofs.Tryd.prog 25 .v (vI n) = true := by kernel_rfl
theorem ok22 (l : List UInt8) : okOs Go.Proofs.Tryd.prog [30] [.o] [vO l] = true := by
  show (okO Go.Proofs.Tryd.prog 30 .o (vO l) && true) = true
  rw [okO22]; rfl
theorem ok2225 (l : List UInt8) (e : Int) : okOs Go.Proofs.Tryd.prog [30, 25] [.o, .v] [vO l, vI e] = true := by
  show (okO Go.Proofs.Tryd.prog 30 .o (vO l) && (okO Go.Proofs.Tryd.prog 25 .v (vI e) && true)) = true
  rw [okO22, okI25]; rfl
theorem ok22325 (l : List UInt8) (n e : Int) : okOs Go.Proofs.Tryd.prog [30, 3, 25] [.o, .v, .v] [vO l, vI n, vI e] = true := by
  show (okO Go.Proofs.Tryd.prog 30 .o (vO l) && (okO Go.Proofs.Tryd.prog 3 .v (vI n) && (okO Go.Proofs.Tryd.prog 25 .v (vI e) && true))) = true
  rw [okO22, okI25, okI3]; rfl
theorem ok4 (b : Bool) : okOs Go.Proofs.Tryd.prog [4] [] [vB b] = true := by kernel_rfl
theorem ok325 (n m : Int) : okOs Go.Proofs.Tryd.prog [3, 25] [] [vI n, vI m] = true := by kernel_rfl
theorem ok34 (n : Int) (b : Bool) : okOs Go.Proofs.Tryd.prog [3, 4] [] [vI n, vB b] = true := by kernel_rfl

/-- A number's bytes, the highest ahead. -/
def byteOf (z : Int) : UInt8 := UInt8.ofNat (z % 256).toNat
def be : Nat → Int → List UInt8
  | 0, _ => []
  | s + 1, n => byteOf (n / 256 ^ s) :: be s n
theorem be_length (s : Nat) (n : Int) : (be s n).length = s := by
  induction s with
  | zero => rfl
  | succ s ih => simp [be, ih]
theorem pvByte_of (z : Int) : PV.int .u8 (IntKind.wrap .u8 z) = pvByte (byteOf z) := by
  have h : IntKind.wrap .u8 z = ((z % 256).toNat : Int) := by
    simp [IntKind.wrap, IntKind.bits, IntKind.signed]
    omega
  rw [h]
  unfold pvByte byteOf
  congr 1
  have : (z % 256).toNat < 256 := by omega
  simp [UInt8.toNat_ofNat', Nat.mod_eq_of_lt this]
theorem shift_of (n : Int) (s : Nat) (hs : s ≤ 7) : Int.fdiv n ((2 : Int) ^ (min (Int.toNat (8 * (s : Int))) (IntKind.bits .i64))) = n / 256 ^ s := by
  have e1 : min (Int.toNat (8 * (s : Int))) (IntKind.bits .i64) = 8 * s := by
    show min (Int.toNat (8 * (s : Int))) 64 = 8 * s
    omega
  rw [e1, Int.pow_mul, Int.fdiv_eq_ediv_of_nonneg _ (Int.pow_nonneg (by decide))]
  rfl
end Go.Proofs.YtgcjhapomljekaaDoor

open Go Go.Ev

set_option linter.unusedSimpArgs false

set_option linter.unusedVariables false

namespace Go.Proofs.YtgcjhapomljekaaDoor

theorem bb_append (a b : List UInt8) : bb a ++ bb b = bb (a ++ b) := by simp [bb]
theorem bb_length (a : List UInt8) : (bb a).length = a.length := by simp [bb]
theorem put_loop (rec : Rec) (n : Nat) (x1 : Int) : ∀ (s : Nat) (l : List UInt8) (m : Nat), s ≤ 8 → s < m → l.length + s ≤ 1000000000 →
    f65_plain_put.l0 rec n m (bb l) x1 (8 * (s : Int) - 8) = some ([vO (l ++ be s x1)], [.flat .gone, .flat .gone, .flat .gone])
  | s, l, 0, hs, hm, hl => by omega
  | 0, l, m + 1, hs, hm, hl => by
    show f65_plain_put.l0.step rec n (f65_plain_put.l0 rec n m) (bb l) x1 _ = _
    unfold f65_plain_put.l0.step
    have c : ¬ (8 * ((0 : Nat) : Int) - 8 ≥ 0) := by omega
    simp only [c, decide_false, ifB_eq, Bool.false_eq_true, if_false, be, List.append_nil]
  | s + 1, l, m + 1, hs, hm, hl => by
    show f65_plain_put.l0.step rec n (f65_plain_put.l0 rec n m) (bb l) x1 _ = _
    unfold f65_plain_put.l0.step
    have e : 8 * ((s + 1 : Nat) : Int) - 8 = 8 * (s : Int) := by omega
    rw [e]
    have c : (8 * (s : Int) ≥ 0) := by omega
    have c' : ((0 : Int) ≤ 8 * (s : Int)) := by omega
    have w : IntKind.wrap .i64 (8 * (s : Int) - 8) = 8 * (s : Int) - 8 := by rw [IntKind.wrap_i64]; omega
    have ih := put_loop rec n x1 s (l ++ [byteOf (x1 / 256 ^ s)]) m (by omega) (by omega) (by simp; omega)
    have b1 : Nat.ble (((bb l).length + 1) * 1) 140737488355328 = true := by rw [Nat.ble_eq, bb_length]; omega
    have b2 : Nat.ble ((bb l).length + 1) 9223372036854775807 = true := by rw [Nat.ble_eq, bb_length]; omega
    have e3 : bb l ++ [pvByte (byteOf (x1 / 256 ^ s))] = bb (l ++ [byteOf (x1 / 256 ^ s)]) := by simp [bb]
    simp only [c, c', decide_true, needB_true, shift_of x1 s (by omega), pvByte_of, List.length_cons, List.length_nil, Nat.zero_add, b1, b2, w, e3, ih, ifB_eq, if_true, be, List.append_assoc, List.cons_append, List.nil_append]
theorem s29 (n : Nat) (l : List UInt8) (x : Int) (s : Nat) (hs : s ≤ 8) (hl : l.length ≤ 100000000) : pcall C (n + 11) 65 [vO l, vI x, vI (s : Int)] = some ([vO (l ++ be s x)], [.flat .gone, .flat .gone, .flat .gone]) := by
  rw [pcall_step (by rfl) (by rfl), f65_plain_put_eq]
  unfold f65_plain_put f65_plain_put.pre
  have w1 : IntKind.wrap .i64 ((s : Int) - 1) = (s : Int) - 1 := by rw [IntKind.wrap_i64]; omega
  have w2 : IntKind.wrap .i64 (8 * ((s : Int) - 1)) = 8 * (s : Int) - 8 := by rw [IntKind.wrap_i64]; omega
  rw [w1, w2]
  exact put_loop _ _ x s l (n + 10) hs (by omega) (by omega)
theorem s22 (n : Nat) (x : Int) : pcall C (n + 12) 51 [vI x] = some ([vO (be 8 x)], []) := by
  rw [pcall_step (by rfl) (by rfl), f51_plain_Num_eq]
  unfold f51_plain_Num
  have h : pcall C (n + 11) 65 [.flat (.own none [] []), vI x, vI 8] = _ := s29 n [] x 8 (by omega) (by simp)
  simp only [h, callB_some, List.nil_append, ok22, needB_true, List.headD_cons, fvF, xsO]
end Go.Proofs.YtgcjhapomljekaaDoor

open Go Go.Ev

set_option linter.unusedSimpArgs false

set_option linter.unusedVariables false

namespace Go.Proofs.YtgcjhapomljekaaDoor

theorem xor_byte (b : UInt8) : PV.int .u8 (IntKind.wrap .u8 (((BitVec.toNat ((BitVec.ofInt (IntKind.bits .u8) ((b.toNat : Nat) : Int)) ^^^ (BitVec.ofInt (IntKind.bits .u8) (128 : Int))) : Nat) : Int))) = pvByte (b ^^^ 128) := by
  have h1 : BitVec.ofInt (IntKind.bits .u8) ((b.toNat : Nat) : Int) = b.toBitVec := by
    apply BitVec.eq_of_toNat_eq
    show (BitVec.ofInt 8 ((b.toNat : Nat) : Int)).toNat = b.toNat
    rw [BitVec.toNat_ofInt]
    have := b.toNat_lt
    omega
  have h2 : BitVec.ofInt (IntKind.bits .u8) (128 : Int) = (128 : UInt8).toBitVec := rfl
  rw [h1, h2]
  have h3 : (b.toBitVec ^^^ (128 : UInt8).toBitVec).toNat = (b ^^^ 128).toNat := rfl
  have h4 := (b ^^^ 128).toNat_lt
  unfold pvByte
  congr 1
  show IntKind.wrap .u8 ((b.toBitVec ^^^ (128 : UInt8).toBitVec).toNat : Int) = _
  rw [h3]
  generalize (b ^^^ 128).toNat = k at h4 ⊢
  simp [IntKind.wrap, IntKind.bits, IntKind.signed]
  omega
def keyOf (x : Int) : List UInt8 := match be 8 x with
  | b :: r => (b ^^^ 128) :: r
  | [] => []
theorem s21 (n : Nat) (x : Int) : pcall C (n + 13) 38 [vI x] = some ([vO (keyOf x)], []) := by
  rw [pcall_step (by rfl) (by rfl), f38_plain_NumKey_eq]
  unfold f38_plain_NumKey
  have h := s22 n x
  have hk : ∃ b r, be 8 x = b :: r := ⟨_, _, rfl⟩
  obtain ⟨b, r, hb⟩ := hk
  have hkey : keyOf x = (b ^^^ 128) :: r := by unfold keyOf; rw [hb]
  have n0 : nthP (bb (b :: r)) 0 = pvByte b := rfl
  have ti : PV.toI (pvByte b) = ((b.toNat : Nat) : Int) := rfl
  have l0 : Nat.blt 0 (bb (b :: r)).length = true := by rw [Nat.blt_eq, bb_length]; simp
  have c0 : (0 : Int) < (((bb (b :: r)).length : Nat) : Int) := by rw [bb_length]; simp only [List.length_cons]; omega
  have st : List.set (bb (b :: r)) 0 (pvByte (b ^^^ 128)) = bb ((b ^^^ 128) :: r) := rfl
  rw [hb] at h
  simp only [h, callB_some, ok22, needB_true, List.headD_cons, fvF, xsO, n0, hasT5, ti, l0, c0, decide_true, xor_byte, st, hkey]
end Go.Proofs.YtgcjhapomljekaaDoor

open Go Go.Ev

set_option linter.unusedSimpArgs false

set_option linter.unusedVariables false

namespace Go.Proofs.YtgcjhapomljekaaDoor

def stepT (x : Int) (b : UInt8) : Int := IntKind.wrap .i64 (((BitVec.toNat ((BitVec.ofInt (IntKind.bits .i64) (IntKind.wrap .i64 (x * (2 : Int) ^ (min 8 (IntKind.bits .i64))))) ||| (BitVec.ofInt (IntKind.bits .i64) (IntKind.wrap .i64 ((b.toNat : Nat) : Int)))) : Nat) : Int))
def takeF : Int → List UInt8 → Int
  | x, [] => x
  | x, b :: r => takeF (stepT x b) r
theorem nth_bb {l : List UInt8} {i : Nat} (h : i < l.length) : nthP (bb l) i = pvByte l[i] := by
  simp [nthP, List.getD, List.getElem?_eq_getElem, h]
theorem toI_byte (b : UInt8) : PV.toI (pvByte b) = ((b.toNat : Nat) : Int) := rfl
theorem wrap_nat (i : Nat) (h : i < 9223372036854775807) : IntKind.wrap .i64 ((i : Int) + 1) = ((i + 1 : Nat) : Int) := by
  rw [IntKind.wrap_i64]; omega
theorem take_loop (rec : Rec) (n : Nat) (l : List UInt8) (hl : l.length ≤ 100) : ∀ (m i : Nat) (x : Int), l.length < m + i → i ≤ l.length →
    f67_plain_take.l0 rec n m x (bb l) (l.length : Int) (i : Int) = some ([vI (takeF x (l.drop i)), vB true], [])
  | 0, i, x, h1, h2 => by omega
  | m + 1, i, x, h1, h2 => by
    show f67_plain_take.l0.step rec n (f67_plain_take.l0 rec n m) x (bb l) _ _ = _
    unfold f67_plain_take.l0.step
    by_cases hi : i < l.length
    · have c1 : ((i : Int) < (l.length : Int)) := by omega
      have c2 : (0 : Int) ≤ (i : Int) := by omega
      have w := wrap_nat i (by omega)
      have ih := take_loop rec n l hl m (i + 1) (stepT x l[i]) (by omega) (by omega)
      have hd : l.drop i = l[i] :: l.drop (i + 1) := List.drop_eq_getElem_cons hi
      unfold stepT at ih
      simp only [c1, c2, decide_true, needB_true, bb_length, Int.toNat_natCast, nth_bb hi, hasT5, toI_byte, w, ih, ifB_eq, if_true, hd, takeF, stepT]
    · have c1 : ¬ ((i : Int) < (l.length : Int)) := by omega
      have hd : l.drop i = [] := List.drop_eq_nil_of_le (by omega)
      simp only [c1, decide_false, ifB_eq, Bool.false_eq_true, if_false, hd, takeF]
theorem bb_take (l : List UInt8) (k : Nat) : List.take k (bb l) = bb (l.take k) := by simp [bb]
theorem bb_drop (l : List UInt8) (k : Nat) : List.drop k (bb l) = bb (l.drop k) := by simp [bb]
theorem s34 (n : Nat) (l : List UInt8) (s : Nat) (hs : s ≤ 8) : pcall C (n + 11) 67 [vR l, vI (s : Int)] = some (if l.length < s then [vI 0, vB false] else [vI (takeF 0 (l.take s)), vB true], []) := by
  rw [pcall_step (by rfl) (by rfl), f67_plain_take_eq]
  unfold f67_plain_take f67_plain_take.pre
  by_cases h : l.length < s
  · have c : ((((bb l).length : Nat) : Int) < (s : Int)) := by rw [bb_length]; omega
    simp only [c, decide_true, ifB_eq, if_true, h]
  · have c : ¬ ((((bb l).length : Nat) : Int) < (s : Int)) := by rw [bb_length]; omega
    have c1 : (0 : Int) ≤ (s : Int) := by omega
    have c2 : ((s : Int) ≤ (((bb l).length : Nat) : Int)) := by rw [bb_length]; omega
    have hlen : (l.take s).length = s := by rw [List.length_take]; omega
    have := take_loop (pcall C (n + 10)) (n + 10) (l.take s) (by omega) (n + 10) 0 0 (by omega) (by omega)
    rw [bb_length] at c c2
    simp only [bb_length, c, c1, c2, decide_true, decide_false, needB_true, ifB_eq, Bool.false_eq_true, if_false, h, Int.toNat_natCast, bb_take]
    exact this
def countN (l : List UInt8) (most : Int) : Int × Int := if l.length < 4 then (0, 3) else if takeF 0 (l.take 4) > most then (0, 2) else (takeF 0 (l.take 4), 0)
end Go.Proofs.YtgcjhapomljekaaDoor

open Go Go.Ev

set_option linter.unusedSimpArgs false

set_option linter.unusedVariables false

namespace Go.Proofs.YtgcjhapomljekaaDoor

theorem stepT_small (x : Nat) (b : UInt8) (hx : x < 36028797018963968) : stepT (x : Int) b = ((x * 256 + b.toNat : Nat) : Int) := by
  have hb := b.toNat_lt
  unfold stepT
  have e1 : (2 : Int) ^ (min 8 (IntKind.bits .i64)) = 256 := by decide
  have e2 : IntKind.wrap .i64 ((x : Int) * 256) = ((x * 256 : Nat) : Int) := by rw [IntKind.wrap_i64]; omega
  have e3 : IntKind.wrap .i64 ((b.toNat : Nat) : Int) = ((b.toNat : Nat) : Int) := by rw [IntKind.wrap_i64]; omega
  rw [e1, e2, e3]
  have h1 : (BitVec.ofInt (IntKind.bits .i64) ((x * 256 : Nat) : Int)).toNat = x * 256 := by
    show (BitVec.ofInt 64 ((x * 256 : Nat) : Int)).toNat = _
    rw [BitVec.toNat_ofInt]; omega
  have h2 : (BitVec.ofInt (IntKind.bits .i64) ((b.toNat : Nat) : Int)).toNat = b.toNat := by
    show (BitVec.ofInt 64 ((b.toNat : Nat) : Int)).toNat = _
    rw [BitVec.toNat_ofInt]; omega
  rw [BitVec.toNat_or, h1, h2]
  have h3 : x * 256 ||| b.toNat = x * 256 + b.toNat := by
    have := Nat.shiftLeft_add_eq_or_of_lt (b := b.toNat) (i := 8) (by omega) x
    rw [Nat.shiftLeft_eq] at this
    exact this.symm
  rw [h3, IntKind.wrap_i64]
  omega
def valN : Nat → List UInt8 → Nat
  | x, [] => x
  | x, b :: r => valN (x * 256 + b.toNat) r
theorem valN_lt : ∀ (l : List UInt8) (x : Nat), valN x l < (x + 1) * 256 ^ l.length
  | [], x => by simp [valN]
  | b :: r, x => by
    have hb := b.toNat_lt
    have := valN_lt r (x * 256 + b.toNat)
    have h2 : (x * 256 + b.toNat + 1) * 256 ^ r.length ≤ ((x + 1) * 256) * 256 ^ r.length := Nat.mul_le_mul_right _ (by omega)
    simp only [valN, List.length_cons, Nat.pow_succ]
    rw [Nat.mul_comm (256 ^ r.length) 256, ← Nat.mul_assoc]
    omega
theorem takeF_small : ∀ (l : List UInt8) (x : Nat), x < 256 ^ (7 - l.length) → l.length ≤ 7 → takeF (x : Int) l = (valN x l : Int)
  | [], x, h, hl => rfl
  | b :: r, x, h, hl => by
    simp only [List.length_cons] at h hl
    have hb := b.toNat_lt
    have h7 : 256 ^ (7 - (r.length + 1)) ≤ 256 ^ 6 := Nat.pow_le_pow_right (by decide) (by omega)
    have h8 : x < 281474976710656 := Nat.lt_of_lt_of_le h h7
    simp only [takeF, valN]
    rw [stepT_small x b (by omega)]
    refine takeF_small r _ ?_ (by omega)
    have e : 7 - r.length = (7 - (r.length + 1)) + 1 := by omega
    rw [e, Nat.pow_succ]
    omega
theorem take4 (l : List UInt8) (h : 4 ≤ l.length) : takeF 0 (l.take 4) = (valN 0 (l.take 4) : Int) ∧ valN 0 (l.take 4) < 4294967296 := by
  have hl : (l.take 4).length = 4 := by rw [List.length_take]; omega
  refine ⟨takeF_small (l.take 4) 0 (by rw [hl]; decide) (by omega), ?_⟩
  have := valN_lt (l.take 4) 0
  rw [hl] at this
  simpa using this
def blobN (l : List UInt8) : List UInt8 × Int := if l.length > 65536 then ([], 2) else (be 4 (l.length : Int) ++ l, 0)
end Go.Proofs.YtgcjhapomljekaaDoor

open Go Go.Ev

set_option linter.unusedSimpArgs false

set_option linter.unusedVariables false

set_option maxHeartbeats 1000000

namespace Go.Proofs.YtgcjhapomljekaaDoor

theorem isByte_bb (l : List UInt8) : (bb l).all isByte = true := by
  simp only [List.all_eq_true, List.mem_map]
  rintro x ⟨b, _, rfl⟩
  have := b.toNat_lt
  simp [pvByte, isByte]
  omega
def takeBlobN (l : List UInt8) : List UInt8 × Int × Int :=
  if l.length < 4 then ([], 0, 3) else if valN 0 (l.take 4) > 65536 then ([], 0, 2) else if l.length < 4 + valN 0 (l.take 4) then ([], 0, 3)
  else ((l.drop 4).take (valN 0 (l.take 4)), ((4 + valN 0 (l.take 4) : Nat) : Int), 0)
end Go.Proofs.YtgcjhapomljekaaDoor

open Go Go.Ev

set_option linter.unusedSimpArgs false

set_option linter.unusedVariables false

set_option maxHeartbeats 1000000

namespace Go.Proofs.YtgcjhapomljekaaDoor

abbrev bbs (l : List (List UInt8)) : List PV := l.map fun p => PV.sl none (bb p)
theorem bbs_length (l : List (List UInt8)) : (bbs l).length = l.length := by simp [bbs]
theorem hasT22 (p : List UInt8) : hasT Go.Proofs.Tryd.prog 30 (.sl none (bb p)) = true := by kernel_rfl
theorem nth_bbs {l : List (List UInt8)} {i : Nat} (h : i < l.length) : nthP (bbs l) i = .sl none (bb l[i]) := by
  simp [nthP, List.getD, List.getElem?_eq_getElem, h]
def rowGo : List UInt8 → List (List UInt8) → List UInt8 × Int
  | out, [] => (out, 0)
  | out, p :: r => if (blobN p).2 = 0 then rowGo (out ++ (blobN p).1) r else ([], (blobN p).2)
def rowN (l : List (List UInt8)) : List UInt8 × Int := if l.length > 4096 then ([], 2) else rowGo (be 4 (l.length : Int)) l
theorem blob_len (p : List UInt8) : (blobN p).1.length ≤ 65540 := by
  unfold blobN
  split
  · simp
  · simp [be_length]; omega
end Go.Proofs.YtgcjhapomljekaaDoor

open Go Go.Ev

set_option linter.unusedSimpArgs false

set_option linter.unusedVariables false

set_option maxHeartbeats 1000000

namespace Go.Proofs.YtgcjhapomljekaaDoor

abbrev nn (l : List (List UInt8)) : List FV := l.map fun p => FV.own none (bb p) []
abbrev vN (l : List (List UInt8)) : OV := .flat (.val (.sl none (bbs l)))
theorem ok32 (l : List (List UInt8)) (n e : Int) : okOs Go.Proofs.Tryd.prog [38, 3, 25] [.v, .v, .v] [vN l, vI n, vI e] = true := by kernel_rfl
def takeRowGo : Nat → List UInt8 → Nat → List (List UInt8) → List (List UInt8) × Nat × Int
  | 0, _, p, acc => (acc, p, 0)
  | k + 1, l, p, acc => if (takeBlobN (l.drop p)).2.2 = 0 then takeRowGo k l (p + (takeBlobN (l.drop p)).2.1.toNat) (acc ++ [(takeBlobN (l.drop p)).1]) else ([], 0, (takeBlobN (l.drop p)).2.2)
def takeRowN (l : List UInt8) : List (List UInt8) × Nat × Int :=
  if l.length < 4 then ([], 0, 3) else if valN 0 (l.take 4) > 4096 then ([], 0, 2) else takeRowGo (valN 0 (l.take 4)) l 4 []
theorem takeBlob_used (l : List UInt8) (h : (takeBlobN l).2.2 = 0) : 0 ≤ (takeBlobN l).2.1 ∧ (takeBlobN l).2.1.toNat ≤ l.length := by
  unfold takeBlobN at h ⊢
  by_cases h1 : l.length < 4
  · simp [h1] at h
  · by_cases h2 : valN 0 (l.take 4) > 65536
    · simp [h1, h2] at h
    · by_cases h3 : l.length < 4 + valN 0 (l.take 4)
      · simp [h1, h2, h3] at h
      · rw [if_neg h1, if_neg h2, if_neg h3]
        dsimp only
        omega
theorem ok223 (l : List UInt8) (n e : Int) : okOs Go.Proofs.Tryd.prog [30, 3, 25] [.o, .v, .v] [vO l, vI n, vI e] = true := ok22325 l n e
theorem frz_nest (l : List (List UInt8)) (a b : OV) : frzR [true] [.cont .nest (nn l), a, b] = [vN l, a, b] := by
  simp [frzR, OV.pv, OV.whole, OV.frz, nn, List.map_map, Function.comp_def, FV.frz]
end Go.Proofs.YtgcjhapomljekaaDoor

open Go Go.Ev

set_option linter.unusedSimpArgs false

set_option linter.unusedVariables false

set_option maxHeartbeats 1000000

namespace Go.Proofs.YtgcjhapomljekaaDoor

/-- A number in 64 bits. -/
def w64 (z : Int) : Int := IntKind.wrap .i64 z
theorem w64_w64 (z : Int) : w64 (w64 z) = w64 z := by simp only [w64, IntKind.wrap_i64]; omega
theorem ofInt_wrap (z : Int) : BitVec.ofInt 64 (IntKind.wrap .i64 z) = BitVec.ofInt 64 z := by
  apply BitVec.eq_of_toNat_eq
  rw [BitVec.toNat_ofInt, BitVec.toNat_ofInt, IntKind.wrap_i64]
  omega
theorem stepT_wrap (x : Int) (b : UInt8) : stepT x b = w64 (x * 256 + (b.toNat : Int)) := by
  have hb := b.toNat_lt
  unfold stepT w64
  have e1 : (2 : Int) ^ (min 8 (IntKind.bits .i64)) = 256 := by decide
  rw [e1]
  show IntKind.wrap .i64 (((BitVec.ofInt 64 (IntKind.wrap .i64 (x * 256))) ||| (BitVec.ofInt 64 (IntKind.wrap .i64 ((b.toNat : Nat) : Int)))).toNat : Int) = _
  rw [ofInt_wrap, ofInt_wrap]
  have h1 : (BitVec.ofInt 64 (x * 256)).toNat = (x % 72057594037927936).toNat * 256 := by
    rw [BitVec.toNat_ofInt]; omega
  have h2 : (BitVec.ofInt 64 ((b.toNat : Nat) : Int)).toNat = b.toNat := by
    rw [BitVec.toNat_ofInt]; omega
  rw [BitVec.toNat_or, h1, h2]
  have h3 : (x % 72057594037927936).toNat * 256 ||| b.toNat = (x % 72057594037927936).toNat * 256 + b.toNat := by
    have := Nat.shiftLeft_add_eq_or_of_lt (b := b.toNat) (i := 8) (by omega) (x % 72057594037927936).toNat
    rw [Nat.shiftLeft_eq] at this
    exact this.symm
  rw [h3, IntKind.wrap_i64, IntKind.wrap_i64]
  omega
theorem w64_step (x : Int) (b : UInt8) : stepT (w64 x) b = w64 (x * 256 + (b.toNat : Int)) := by
  rw [stepT_wrap]
  simp only [w64, IntKind.wrap_i64]
  omega
theorem takeF_val : ∀ (l : List UInt8) (x : Nat), takeF (w64 (x : Int)) l = w64 (valN x l : Int)
  | [], x => rfl
  | b :: r, x => by
    simp only [takeF, valN]
    rw [w64_step]
    have := takeF_val r (x * 256 + b.toNat)
    rw [← this]
    congr 1
theorem takeF_zero (l : List UInt8) : takeF 0 l = w64 (valN 0 l : Int) := takeF_val l 0
def takeNumN (l : List UInt8) : Int × Int × Int := if l.length < 8 then (0, 0, 3) else (w64 (valN 0 (l.take 8) : Int), 8, 0)
theorem s23 (n : Nat) (l : List UInt8) : pcall C (n + 12) 53 [vR l] = some ([vI (takeNumN l).1, vI (takeNumN l).2.1, vI (takeNumN l).2.2], []) := by
  rw [pcall_step (by rfl) (by rfl), f53_plain_TakeNum_eq]
  unfold f53_plain_TakeNum takeNumN
  have h : pcall C (n + 11) 67 [vR l, vI 8] = _ := s34 n l 8 (by omega)
  by_cases hl : l.length < 8
  · rw [if_pos hl] at h
    simp only [h, callB_some, ok34, needB_true, List.headD_cons, List.tail_cons, fvF, pvF, toI_int, toB_bool, Bool.not_false, ifB_eq, if_true, hl]
  · rw [if_neg hl, takeF_zero] at h
    simp only [h, callB_some, ok34, needB_true, List.headD_cons, List.tail_cons, fvF, pvF, toI_int, toB_bool, Bool.not_true, ifB_eq, Bool.false_eq_true, if_false, hl]
theorem ok3325 (a b c : Int) : okOs Go.Proofs.Tryd.prog [3, 3, 25] [] [vI a, vI b, vI c] = true := by kernel_rfl
def takeKeyN (l : List UInt8) : Int × Int × Int := if l.length < 8 then (0, 0, 3) else (w64 (valN 0 (l.take 8) + 9223372036854775808), 8, 0)
theorem xor_pow (k v : Nat) (h : v < 2 ^ (k + 1)) : v ^^^ 2 ^ k = (v + 2 ^ k) % 2 ^ (k + 1) := by
  apply Nat.eq_of_testBit_eq
  intro j
  rw [Nat.testBit_xor, Nat.testBit_mod_two_pow, Nat.testBit_two_pow, Nat.add_comm v (2 ^ k)]
  rcases Nat.lt_trichotomy j k with hj | hj | hj
  · rw [Nat.testBit_two_pow_add_gt hj]
    have h1 : decide (k = j) = false := decide_eq_false (by omega)
    have h2 : decide (j < k + 1) = true := decide_eq_true (by omega)
    rw [h1, h2]
    simp
  · subst hj
    rw [Nat.testBit_two_pow_add_eq]
    simp
  · have h1 : decide (k = j) = false := decide_eq_false (by omega)
    have h2 : decide (j < k + 1) = false := decide_eq_false (by omega)
    have h3 : v.testBit j = false := Nat.testBit_lt_two_pow (Nat.lt_of_lt_of_le h (Nat.pow_le_pow_right (by decide) (by omega)))
    rw [h1, h2, h3]
    rfl
theorem xor_top (v : Nat) (h : v < 18446744073709551616) : v ^^^ 9223372036854775808 = (v + 9223372036854775808) % 18446744073709551616 := xor_pow 63 v h
theorem xor_min (z : Int) : IntKind.wrap .i64 ((((BitVec.ofInt (IntKind.bits .i64) z) ^^^ (BitVec.ofInt (IntKind.bits .i64) (-9223372036854775808))).toNat : Nat) : Int) = w64 (z + 9223372036854775808) := by
  show IntKind.wrap .i64 ((((BitVec.ofInt 64 z) ^^^ (BitVec.ofInt 64 (-9223372036854775808))).toNat : Nat) : Int) = _
  have h1 : (BitVec.ofInt 64 (-9223372036854775808)).toNat = 9223372036854775808 := by decide
  have h2 : (BitVec.ofInt 64 z).toNat = (z % 18446744073709551616).toNat := by rw [BitVec.toNat_ofInt]; rfl
  rw [BitVec.toNat_xor, h1, h2, xor_top _ (by omega), w64, IntKind.wrap_i64, IntKind.wrap_i64]
  omega
theorem s24 (n : Nat) (l : List UInt8) : pcall C (n + 13) 40 [vR l] = some ([vI (takeKeyN l).1, vI (takeKeyN l).2.1, vI (takeKeyN l).2.2], []) := by
  rw [pcall_step (by rfl) (by rfl), f40_plain_TakeNumKey_eq]
  unfold f40_plain_TakeNumKey takeKeyN
  have h := s23 n l
  unfold takeNumN at h
  by_cases hl : l.length < 8
  · rw [if_pos hl] at h
    simp only [h, callB_some, ok3325, needB_true, List.headD_cons, List.tail_cons, fvF, pvF, toI_int, show ((3 : Int) != 0) = true from rfl, ifB_eq, if_true, hl]
  · rw [if_neg hl] at h
    have e : w64 (w64 (valN 0 (l.take 8) : Int) + 9223372036854775808) = w64 ((valN 0 (l.take 8) : Int) + 9223372036854775808) := by
      simp only [w64, IntKind.wrap_i64]; omega
    simp only [h, callB_some, ok3325, needB_true, List.headD_cons, List.tail_cons, fvF, pvF, toI_int, show ((0 : Int) != 0) = false from rfl, ifB_eq, Bool.false_eq_true, if_false, hl, xor_min, e]
theorem valN_add : ∀ (l : List UInt8) (x : Nat), valN x l = x * 256 ^ l.length + valN 0 l
  | [], x => by simp [valN]
  | b :: r, x => by
    simp only [valN, List.length_cons]
    rw [valN_add r (x * 256 + b.toNat), valN_add r (0 * 256 + b.toNat), Nat.pow_succ, Nat.add_mul, Nat.zero_mul, Nat.zero_add, Nat.mul_assoc, Nat.mul_comm 256 (256 ^ r.length), Nat.add_assoc]
theorem xor128 (b : UInt8) : (b ^^^ 128).toNat = (b.toNat + 128) % 256 := by
  rw [UInt8.toNat_xor]
  exact xor_pow 7 b.toNat b.toNat_lt
end Go.Proofs.YtgcjhapomljekaaDoor

open Go Go.Ev

set_option linter.unusedSimpArgs false

set_option linter.unusedVariables false

set_option maxHeartbeats 1000000

namespace Go.Proofs.YtgcjhapomljekaaDoor

theorem ediv_pow (v : Int) (s : Nat) : (v / 256) / 256 ^ s = v / 256 ^ (s + 1) := by
  rw [Int.ediv_ediv_of_nonneg (by decide)]
  congr 1
  rw [Int.pow_succ, Int.mul_comm]
theorem be_last : ∀ (s : Nat) (v : Int), be (s + 1) v = be s (v / 256) ++ [byteOf v]
  | 0, v => by simp [be]
  | s + 1, v => by
    have ih := be_last s v
    show byteOf (v / 256 ^ (s + 1)) :: be (s + 1) v = (byteOf (v / 256 / 256 ^ s) :: be s (v / 256)) ++ [byteOf v]
    rw [ih, ediv_pow]
    rfl
theorem rep_set (a b : UInt8) : ∀ (s : Nat) (t : List UInt8), (List.replicate (s + 1) a ++ t).set s b = List.replicate s a ++ b :: t
  | 0, t => rfl
  | s + 1, t => by
    have ih := rep_set a b s t
    show a :: ((List.replicate (s + 1) a ++ t).set s b) = a :: (List.replicate s a ++ b :: t)
    rw [ih]
theorem bb_set (l : List UInt8) (i : Nat) (b : UInt8) : List.set (bb l) i (pvByte b) = bb (l.set i b) := by simp [bb, List.map_set]
/-! the laws' helpers -/
abbrev vLent (l : List UInt8) : OV := .flat (.own none (bb l) [.int .u8 77])
theorem s9 (n : Nat) (l : List UInt8) (hl : l.length + 1 ≤ 140737488355328) : pcall C (n + 1) 17 [vR l] = some ([vLent l], []) := by
  rw [pcall_prim (p := primLent) (by rfl)]
  have hb : Nat.ble ((bb l).length + 1) 140737488355328 = true := by rw [Nat.ble_eq, bb_length]; exact hl
  have h : ((bb l).all isByte && Nat.ble ((bb l).length + 1) 140737488355328) = true := by rw [isByte_bb, hb]; rfl
  unfold primLent
  dsimp only
  rw [h]
theorem u8_bb (l : List UInt8) : List.map u8Of (bb l) = l := by
  simp only [bb, List.map_map]
  conv => rhs; rw [← List.map_id l]
  refine List.map_congr_left fun b _ => ?_
  simp [u8Of, pvByte]
theorem s14 (n : Nat) (l : List UInt8) (hl : l.length + 1 ≤ 140737488355328) : pcall C (n + 1) 22 [vLent l, vR l] = some ([vB true], [vLent l, .flat .gone]) := by
  rw [pcall_prim (p := primKept) (by rfl)]
  have hb : Nat.ble ((bb l).length + 1) 140737488355328 = true := by rw [Nat.ble_eq, bb_length]; exact hl
  have h : ((bb l).all isByte && (bb l).all isByte && isByte (.int .u8 77) && Nat.ble ((bb l).length + 1) 140737488355328) = true := by
    rw [isByte_bb, hb]; decide
  unfold primKept
  dsimp only
  rw [h]
  dsimp only
  rw [beq_self_eq_true]
  rfl
theorem s15 (n : Nat) (cs : List FV) (h : cs.all isRowB = true) (hl : cs.length ≤ 1000000) : pcall C (n + 1) 23 [.cont .nest cs] = some ([vB true], [.flat .gone]) := by
  rw [pcall_prim (p := primOwned) (by rfl)]
  have h2 : (cs.all isRowB && Nat.ble cs.length 1000000) = true := by
    rw [h, Bool.true_and, Nat.ble_eq]; exact hl
  unfold primOwned
  dsimp only
  rw [h2]
theorem spO (sh : Option Nat) (l sp : List PV) : FV.sp (.own sh l sp) = sp := rfl
theorem row22s (l : List UInt8) : okRow Go.Proofs.Tryd.prog 30 (bb l) [.int .u8 77] = true := by
  have h1 : tElem Go.Proofs.Tryd.prog 30 = some 5 := by kernel_rfl
  unfold okRow
  rw [h1]
  dsimp only
  split
  · rw [all5, show ([.int .u8 77] : List PV).all (hasT Go.Proofs.Tryd.prog 5) = true by kernel_rfl]; rfl
  · rfl
theorem ok22s (l : List UInt8) : okOs Go.Proofs.Tryd.prog [30] [.os] [vLent l] = true := by
  have h1 : elemShape Go.Proofs.Tryd.prog 30 = none := by kernel_rfl
  show ((shEq (elemShape Go.Proofs.Tryd.prog 30) none && okRow Go.Proofs.Tryd.prog 30 (bb l) [.int .u8 77]) && true) = true
  rw [h1, row22s]; rfl
theorem out22s (l : List UInt8) : okOuts Go.Proofs.Tryd.prog [30, 30] [.io .os, .ro] [vLent l, .flat .gone] = true := by
  have h1 : elemShape Go.Proofs.Tryd.prog 30 = none := by kernel_rfl
  show ((shEq (elemShape Go.Proofs.Tryd.prog 30) none && okRow Go.Proofs.Tryd.prog 30 (bb l) [.int .u8 77]) && true) = true
  rw [h1, row22s]; rfl
theorem ok_ooo (a b c : Int) : okOs Go.Proofs.Tryd.prog [3, 3, 25] [] [vI a, vI b, vI c] = true := ok3325 a b c
end Go.Proofs.YtgcjhapomljekaaDoor

open Go Go.Ev

set_option linter.unusedSimpArgs false

set_option linter.unusedVariables false

set_option maxHeartbeats 1000000

namespace Go.Proofs.YtgcjhapomljekaaDoor

theorem byteOf_toNat (z : Int) : ((byteOf z).toNat : Int) = z % 256 := by
  unfold byteOf
  have : (z % 256).toNat < 256 := by omega
  simp [UInt8.toNat_ofNat', Nat.mod_eq_of_lt this]
  omega
theorem byteOf_mod {x y : Int} (h : x % 256 = y % 256) : byteOf x = byteOf y := by unfold byteOf; rw [h]
theorem be_mod : ∀ (s : Nat) (x y : Int), (∀ i, i < s → (x / 256 ^ i) % 256 = (y / 256 ^ i) % 256) → be s x = be s y
  | 0, x, y, h => rfl
  | s + 1, x, y, h => by
    unfold be
    rw [byteOf_mod (h s (by omega)), be_mod s x y fun i hi => h i (by omega)]
/-- A number's key, its number raised to be none below nought. -/
theorem key_be (x : Int) : keyOf x = be 8 (x + 9223372036854775808) := by
  have e : be 8 x = byteOf (x / 256 ^ 7) :: be 7 x := rfl
  unfold keyOf
  rw [e]
  show (byteOf (x / 256 ^ 7) ^^^ 128) :: be 7 x = byteOf ((x + 9223372036854775808) / 256 ^ 7) :: be 7 (x + 9223372036854775808)
  congr 1
  · apply UInt8.toNat_inj.mp
    rw [xor128]
    have h1 := byteOf_toNat (x / 256 ^ 7)
    have h2 := byteOf_toNat ((x + 9223372036854775808) / 256 ^ 7)
    have e7 : (256 : Int) ^ 7 = 72057594037927936 := by decide
    rw [e7] at h1 h2
    rw [e7]
    omega
  · apply be_mod
    intro i hi
    match i, hi with
    | 0, _ => simp only [Int.pow_zero]; omega
    | 1, _ => rw [show (256 : Int) ^ 1 = 256 by decide]; omega
    | 2, _ => rw [show (256 : Int) ^ 2 = 65536 by decide]; omega
    | 3, _ => rw [show (256 : Int) ^ 3 = 16777216 by decide]; omega
    | 4, _ => rw [show (256 : Int) ^ 4 = 4294967296 by decide]; omega
    | 5, _ => rw [show (256 : Int) ^ 5 = 1099511627776 by decide]; omega
    | 6, _ => rw [show (256 : Int) ^ 6 = 281474976710656 by decide]; omega
theorem nth_mid (a : List UInt8) (b : UInt8) (t : List UInt8) : nthP (bb (a ++ b :: t)) a.length = pvByte b := by
  have h : a.length < (a ++ b :: t).length := by simp
  rw [nth_bb h]
  congr 1
  simp
theorem be_zero_last (s : Nat) (q : Int) (h : q % 256 = 255) : be (s + 1) (q + 1) = be s (q / 256 + 1) ++ [0] := by
  rw [be_last]
  have e1 : (q + 1) / 256 = q / 256 + 1 := by omega
  have e2 : byteOf (q + 1) = 0 := by
    apply UInt8.toNat_inj.mp
    have := byteOf_toNat (q + 1)
    have e : ((0 : UInt8).toNat) = 0 := rfl
    rw [e]; omega
  rw [e1, e2]
end Go.Proofs.YtgcjhapomljekaaDoor

open Go Go.Ev

set_option linter.unusedSimpArgs false

set_option linter.unusedVariables false

set_option maxHeartbeats 1000000

namespace Go.Proofs.YtgcjhapomljekaaDoor

/-- Blobs, one behind the other. -/
def encs : List (List UInt8) → List UInt8
  | [] => []
  | p :: r => be 4 (p.length : Int) ++ (p ++ encs r)
def fits (l : List (List UInt8)) : Prop := ∀ p ∈ l, p.length ≤ 65536
theorem rowGo_ok : ∀ (l : List (List UInt8)) (out : List UInt8), fits l → rowGo out l = (out ++ encs l, 0)
  | [], out, h => by simp [rowGo, encs]
  | p :: r, out, h => by
    have hp : ¬ p.length > 65536 := by
      have := h p (by simp)
      omega
    have e : blobN p = (be 4 (p.length : Int) ++ p, 0) := by unfold blobN; rw [if_neg hp]
    simp only [rowGo, e, if_true]
    rw [rowGo_ok r _ fun q hq => h q (by simp [hq])]
    simp [encs, List.append_assoc]
theorem rowGo_no : ∀ (l : List (List UInt8)) (out : List UInt8), ¬ fits l → rowGo out l = ([], 2)
  | [], out, h => (h fun p hp => by simp at hp).elim
  | p :: r, out, h => by
    by_cases hp : p.length > 65536
    · have e : blobN p = ([], 2) := by unfold blobN; rw [if_pos hp]
      simp only [rowGo, e]
      rw [if_neg (by decide)]
    · have e : blobN p = (be 4 (p.length : Int) ++ p, 0) := by unfold blobN; rw [if_neg hp]
      simp only [rowGo, e, if_true]
      refine rowGo_no r _ fun hr => h fun q hq => ?_
      rcases List.mem_cons.mp hq with rfl | hq
      · omega
      · exact hr q hq
theorem valN_snoc : ∀ (l : List UInt8) (x : Nat) (b : UInt8), valN x (l ++ [b]) = valN x l * 256 + b.toNat
  | [], x, b => rfl
  | c :: r, x, b => by
    simp only [List.cons_append, valN]
    exact valN_snoc r _ b
theorem valN_be : ∀ (s : Nat) (x : Nat), x < 256 ^ s → valN 0 (be s (x : Int)) = x
  | 0, x, h => by simp at h; simp [be, valN, h]
  | s + 1, x, h => by
    rw [be_last, valN_snoc]
    have e : ((x : Int) / 256) = ((x / 256 : Nat) : Int) := by omega
    rw [e, valN_be s (x / 256) (by rw [Nat.pow_succ] at h; omega)]
    have := byteOf_toNat (x : Int)
    omega
/-- Of what is cut off behind a blob's begin the end is told. -/
theorem takeBlob_cut (p s : List UInt8) (j : Nat) (hp : p.length ≤ 65536) : 
    (j < 4 + p.length → (takeBlobN ((be 4 (p.length : Int) ++ (p ++ s)).take j)).2.2 = 3) ∧
    (4 + p.length ≤ j → takeBlobN ((be 4 (p.length : Int) ++ (p ++ s)).take j) = (p, ((4 + p.length : Nat) : Int), 0)) := by
  have l4 : (be 4 (p.length : Int)).length = 4 := be_length _ _
  have hv : ∀ j, 4 ≤ j → ((be 4 (p.length : Int) ++ (p ++ s)).take j).take 4 = be 4 (p.length : Int) := by
    intro j hj
    rw [List.take_take, Nat.min_eq_left hj, List.take_append_of_le_length (by omega), List.take_of_length_le (by omega)]
  have hb := valN_be 4 p.length (by omega)
  constructor
  · intro h
    unfold takeBlobN
    by_cases h4 : ((be 4 (p.length : Int) ++ (p ++ s)).take j).length < 4
    · rw [if_pos h4]
    · have : 4 ≤ j := by rw [List.length_take] at h4; omega
      rw [if_neg h4, hv j this, hb, if_neg (by omega), if_pos (by rw [List.length_take]; omega)]
  · intro h
    unfold takeBlobN
    have hl : ((be 4 (p.length : Int) ++ (p ++ s)).take j).length = min j (4 + (p.length + s.length)) := by simp [l4]
    rw [if_neg (by rw [hl]; omega), hv j (by omega), hb, if_neg (by omega), if_neg (by rw [hl]; omega)]
    have e : (((be 4 (p.length : Int) ++ (p ++ s)).take j).drop 4).take p.length = p := by
      rw [List.drop_take, List.drop_append_of_le_length (by omega), List.drop_of_length_le (by omega), List.nil_append, List.take_take, Nat.min_eq_left (by omega), List.take_left]
    rw [e]
theorem takeRowGo_cut : ∀ (l : List (List UInt8)) (L : List UInt8) (p : Nat) (acc : List (List UInt8)) (j : Nat), fits l → j < (encs l).length → L.drop p = (encs l).take j → (takeRowGo l.length L p acc).2.2 = 3
  | [], L, p, acc, j, h, hj, hd => by simp [encs] at hj
  | q :: r, L, p, acc, j, h, hj, hd => by
    have hq := h q (by simp)
    obtain ⟨c1, c2⟩ := takeBlob_cut q (encs r) j hq
    have e : encs (q :: r) = be 4 (q.length : Int) ++ (q ++ encs r) := rfl
    rw [← e, ← hd] at c1 c2
    have l4 : (be 4 (q.length : Int)).length = 4 := be_length _ _
    show (takeRowGo (r.length + 1) L p acc).2.2 = 3
    by_cases hc : j < 4 + q.length
    · have := c1 hc
      simp only [takeRowGo]
      rw [if_neg (by rw [this]; decide)]
      exact this
    · have := c2 (by omega)
      simp only [takeRowGo]
      rw [if_pos (by rw [this]), this]
      refine takeRowGo_cut r L _ _ (j - (4 + q.length)) (fun x hx => h x (by simp [hx])) ?_ ?_
      · rw [e] at hj
        simp only [List.length_append, l4] at hj
        omega
      · show L.drop (p + ((4 + q.length : Nat) : Int).toNat) = _
        rw [Int.toNat_natCast, ← List.drop_drop, hd, List.drop_take, e, ← List.append_assoc]
        rw [List.drop_append_of_le_length (by simp [l4]), List.drop_of_length_le (by simp [l4]), List.nil_append]
theorem takeRow_cut (l : List (List UInt8)) (hl : l.length ≤ 4096) (h : fits l) (k : Nat) (hk : k < (be 4 (l.length : Int) ++ encs l).length) : (takeRowN ((be 4 (l.length : Int) ++ encs l).take k)).2.2 = 3 := by
  have l4 : (be 4 (l.length : Int)).length = 4 := be_length _ _
  unfold takeRowN
  by_cases h4 : ((be 4 (l.length : Int) ++ encs l).take k).length < 4
  · rw [if_pos h4]
  · have hk4 : 4 ≤ k := by rw [List.length_take] at h4; omega
    have hv : ((be 4 (l.length : Int) ++ encs l).take k).take 4 = be 4 (l.length : Int) := by
      rw [List.take_take, Nat.min_eq_left hk4, List.take_append_of_le_length (by omega), List.take_of_length_le (by omega)]
    rw [if_neg h4, hv, valN_be 4 l.length (by omega), if_neg (by omega)]
    refine takeRowGo_cut l _ 4 [] (k - 4) h (by simp only [List.length_append, l4] at hk; omega) ?_
    rw [List.drop_take, List.drop_append_of_le_length (by omega), List.drop_of_length_le (by omega), List.nil_append]
theorem encs_len : ∀ (l : List (List UInt8)), fits l → (encs l).length ≤ 65540 * l.length
  | [], h => by simp [encs]
  | p :: r, h => by
    have := encs_len r fun q hq => h q (by simp [hq])
    have hp := h p (by simp)
    simp only [encs, List.length_append, be_length, List.length_cons]
    omega
theorem ok_tr (l : List (List UInt8)) (n e : Int) : okOs Go.Proofs.Tryd.prog [38, 3, 25] [.v, .v, .v] [vN l, vI n, vI e] = true := ok32 l n e
theorem tmod_in (c : Int) (L : Nat) (h : 0 < L) : (Int.tmod c (L : Int) < 0 → 0 ≤ Int.tmod c (L : Int) + L ∧ Int.tmod c (L : Int) + L < L) ∧ (¬ Int.tmod c (L : Int) < 0 → Int.tmod c (L : Int) < L) := by
  have h1 : (Int.tmod c (L : Int)).natAbs = c.natAbs % L := by
    rw [Int.natAbs_tmod]; rfl
  have h2 := Nat.mod_lt c.natAbs h
  omega
end Go.Proofs.YtgcjhapomljekaaDoor

open Go Go.Ev

set_option linter.unusedSimpArgs false

set_option linter.unusedVariables false

set_option maxHeartbeats 1000000

namespace Go.Proofs.YtgcjhapomljekaaDoor

/-- A byte, wherever it stands, by others. -/
def escW (z : UInt8) (r : List UInt8) : List UInt8 → List UInt8
  | [] => []
  | b :: t => if b = z then r ++ escW z r t else b :: escW z r t
theorem index_none : ∀ (l : List UInt8) (z : UInt8), l.count z = 0 → Lib.indexByte l z = -1
  | [], z, h => rfl
  | b :: t, z, h => by
    rw [List.count_cons] at h
    have hb : (b == z) = false := by
      cases hb : b == z with
      | false => rfl
      | true => rw [hb] at h; simp at h
    have ht : t.count z = 0 := by rw [hb] at h; simpa using h
    unfold Lib.indexByte
    rw [hb, index_none t z ht]
    rfl
theorem index_some : ∀ (l : List UInt8) (z : UInt8), 0 < l.count z → ∃ k : Nat, Lib.indexByte l z = (k : Int) ∧ k < l.length ∧ (l.take k).count z = 0 ∧ l = l.take k ++ z :: l.drop (k + 1)
  | [], z, h => by simp at h
  | b :: t, z, h => by
    unfold Lib.indexByte
    cases hb : b == z with
    | true =>
      have : b = z := by simpa using hb
      subst this
      exact ⟨0, by simp, by simp, by simp, by simp⟩
    | false =>
      rw [List.count_cons, hb] at h
      obtain ⟨k, h1, h2, h3, h4⟩ := index_some t z (by simpa using h)
      have hne : (Lib.indexByte t z == -1) = false := by
        rw [h1]
        exact decide_eq_false (by omega)
      refine ⟨k + 1, ?_, ?_, ?_, ?_⟩
      · rw [hne, h1]; simp
      · simp; omega
      · rw [List.take_succ_cons, List.count_cons, h3, hb]; simp
      · simp only [List.take_succ_cons, List.drop_succ_cons, List.cons_append]
        rw [← h4]
theorem escW_none : ∀ (l : List UInt8) (z : UInt8) (r : List UInt8), l.count z = 0 → escW z r l = l
  | [], z, r, h => rfl
  | b :: t, z, r, h => by
    rw [List.count_cons] at h
    have hb : b ≠ z := by
      rintro rfl
      simp at h
    have ht : t.count z = 0 := by omega
    simp only [escW]
    rw [if_neg hb, escW_none t z r ht]
theorem escW_append : ∀ (a b : List UInt8) (z : UInt8) (r : List UInt8), escW z r (a ++ b) = escW z r a ++ escW z r b
  | [], b, z, r => rfl
  | x :: t, b, z, r => by
    simp only [List.cons_append, escW]
    rw [escW_append t b z r]
    split <;> simp
theorem escW_len : ∀ (l : List UInt8) (z a b : UInt8), (escW z [a, b] l).length = l.length + l.count z
  | [], z, a, b => rfl
  | x :: t, z, a, b => by
    simp only [escW, List.count_cons, List.length_cons]
    have := escW_len t z a b
    by_cases h : x = z
    · rw [if_pos h]
      subst h
      simp [this]; omega
    · rw [if_neg h]
      have hb : (x == z) = false := by simpa using h
      rw [hb]
      simp [this]; omega
theorem wrap_in (z : Int) (h0 : 0 ≤ z) (h1 : z < 9223372036854775808) : IntKind.wrap .i64 z = z := by
  rw [IntKind.wrap_i64]; omega
theorem ok_3 (n : Int) : okOs Go.Proofs.Tryd.prog [3] [] [vI n] = true := by kernel_rfl
abbrev v0 : OV := .flat (.val (.sl none [PV.int .u8 0]))
theorem s22' (n : Nat) (l : List UInt8) : pcall C (n + 1) 54 [vR l, .flat (.val (.int .u8 0))] = some ([vI (Lib.indexByte l 0)], []) := by
  rw [pcall_prim (p := primIndexByte) (by rfl)]
  unfold primIndexByte
  dsimp only
  rw [isByte_bb]
  dsimp only
  rw [u8_bb]
  rfl
theorem s31' (n : Nat) (l : List UInt8) : pcall C (n + 1) 79 [vR l, v0] = some ([vI ((l.count 0 : Nat) : Int)], []) := by
  rw [pcall_prim (p := primCountOne) (by rfl)]
  unfold primCountOne
  dsimp only
  rw [isByte_bb]
  dsimp only
  rw [u8_bb]
  rfl
theorem s32' (n : Nat) (l : List UInt8) : pcall C (n + 2) 80 [vR l, v0] = some ([vI (Lib.indexByte l 0)], []) := by
  rw [pcall_step (by rfl) (by rfl), f80_bytes_Index_eq]
  unfold f80_bytes_Index
  have h := s22' n l
  have c : ((0 : Int) < (([PV.int .u8 0] : List PV).length : Nat)) := by simp
  have n0 : nthP [PV.int .u8 0] 0 = PV.int .u8 0 := rfl
  have h5 : hasT Go.Proofs.Tryd.prog 5 (PV.int .u8 0) = true := by kernel_rfl
  simp only [c, n0, h5, toI_int, decide_true, needB_true, h, callB_some, ok_3, List.headD_cons, fvF, pvF]
theorem splice_at (out seg : List UInt8) (r k o : Nat) (ho : out.length = o) (hs : seg.length = k) (hk : k ≤ r) :
    List.take o (out ++ List.replicate r 0) ++ List.take k seg ++ List.drop (o + k) (out ++ List.replicate r 0) = (out ++ seg) ++ List.replicate (r - k) 0 := by
  subst ho hs
  rw [List.take_left, List.take_length, List.drop_append, List.drop_of_length_le (by omega), List.nil_append, List.drop_replicate]
  congr 2
  omega
theorem replace_loop (rec : Rec) (n : Nat) (s : List UInt8) (hs : s.length ≤ 1000000000) (hrec : ∀ l : List UInt8, rec 80 [vR l, v0] = some ([vI (Lib.indexByte l 0)], [])) : ∀ (c m p o r i : Nat) (out : List UInt8), c < m → (s.drop p).count 0 = c → p ≤ s.length → r = (s.length - p) + c → out.length = o → 0 < o + r → o + r ≤ 2000000000 →
    i + c ≤ 1000000000 →
    f66_bytes_Replace.l0 rec n m (bb s) [PV.int .u8 0] (bb [0, 255]) (bb (out ++ List.replicate r 0)) (o : Int) (p : Int) ((i + c : Nat) : Int) (i : Int) = some ([vO (out ++ escW 0 [0, 255] (s.drop p))], [])
  | c, 0, p, o, r, i, out, h1, h2, h3, h4, h5, h6, h7, h8 => by omega
  | 0, m + 1, p, o, r, i, out, h1, h2, h3, h4, h5, h6, h7, h8 => by
    show f66_bytes_Replace.l0.step rec n (f66_bytes_Replace.l0 rec n m) _ _ _ _ _ _ _ _ = _
    unfold f66_bytes_Replace.l0.step
    have c1 : ¬ ((i : Int) < ((i + 0 : Nat) : Int)) := by omega
    have c2 : (0 : Int) ≤ (o : Int) := by omega
    have ln : (out ++ List.replicate r 0).length = o + r := by simp [h5]
    have c3 : ((o : Int) ≤ ((o + r : Nat) : Int)) := by omega
    have c4 : (0 : Int) ≤ (p : Int) := by omega
    have c5 : ((p : Int) ≤ (s.length : Int)) := by omega
    have c6 : Nat.blt 0 (o + r) = true := by rw [Nat.blt_eq]; exact h6
    have dl : (s.drop p).length = r := by rw [List.length_drop]; omega
    have mn : Nat.min r (o + r - o) = r := by rw [Nat.add_sub_cancel_left]; exact Nat.min_self r
    have w : IntKind.wrap .i64 ((o : Int) + (r : Int)) = ((o + r : Nat) : Int) := by rw [wrap_in _ (by omega) (by omega)]; omega
    have c7 : (0 : Int) ≤ ((o + r : Nat) : Int) := by omega
    have sp := splice_at out (s.drop p) r r o h5 dl (Nat.le_refl _)
    rw [Nat.sub_self, List.replicate_zero, List.append_nil] at sp
    have ln2 : (out ++ s.drop p).length = o + r := by rw [List.length_append, dl, h5]
    have c8 : (((o + r : Nat) : Int) ≤ ((o + r : Nat) : Int)) := Int.le_refl _
    have tk : List.take (o + r) (out ++ s.drop p) = out ++ s.drop p := List.take_of_length_le (by omega)
    simp only [c1, decide_false, ifB_eq, Bool.false_eq_true, if_false, c2, c3, c4, c5, c6, c7, c8, decide_true, needB_true, bb_length, ln, Int.toNat_natCast, bb_drop, bb_take, bb_append, dl, mn, w, sp, ln2, tk]
    rw [escW_none _ _ _ h2]
  | c + 1, m + 1, p, o, r, i, out, h1, h2, h3, h4, h5, h6, h7, h8 => by
    show f66_bytes_Replace.l0.step rec n (f66_bytes_Replace.l0 rec n m) _ _ _ _ _ _ _ _ = _
    unfold f66_bytes_Replace.l0.step
    obtain ⟨k, k1, k2, k3, k4⟩ := index_some (s.drop p) 0 (by omega)
    have hr := hrec (s.drop p)
    rw [k1] at hr
    obtain ⟨seg, hseg⟩ : ∃ seg, (s.drop p).take k = seg := ⟨_, rfl⟩
    rw [List.length_drop] at k2
    have segl : seg.length = k := by rw [← hseg, List.length_take, List.length_drop]; omega
    have eseg : List.drop p (List.take (p + k) s) = seg := by
      rw [List.drop_take, Nat.add_sub_cancel_left, hseg]
    rw [hseg] at k3 k4
    rw [List.drop_drop, ← Nat.add_assoc] at k4
    have cnt : (s.drop (p + k + 1)).count 0 = c := by
      rw [k4, List.count_append, k3, List.count_cons] at h2
      simp at h2
      exact h2
    have c1 : ((i : Int) < ((i + (c + 1) : Nat) : Int)) := by omega
    have c2 : (0 : Int) ≤ (p : Int) := by omega
    have c3 : ((p : Int) ≤ (s.length : Int)) := by omega
    have w1 : IntKind.wrap .i64 ((p : Int) + (k : Int)) = ((p + k : Nat) : Int) := by rw [wrap_in _ (by omega) (by omega)]; omega
    have ln : (out ++ List.replicate r 0).length = o + r := by simp [h5]
    have c4 : (0 : Int) ≤ (o : Int) := by omega
    have c5 : ((o : Int) ≤ ((o + r : Nat) : Int)) := by omega
    have c6 : ((p : Int) ≤ ((p + k : Nat) : Int)) := by omega
    have c7 : (((p + k : Nat) : Int) ≤ (s.length : Int)) := by omega
    have c8 : Nat.blt 0 (o + r) = true := by rw [Nat.blt_eq]; exact h6
    have m1 : Nat.min k (o + r - o) = k := by rw [Nat.add_sub_cancel_left]; exact Nat.min_eq_left (by omega)
    have sp1 := splice_at out seg r k o h5 segl (by omega)
    have w2 : IntKind.wrap .i64 ((o : Int) + (k : Int)) = ((o + k : Nat) : Int) := by rw [wrap_in _ (by omega) (by omega)]; omega
    have ln2 : (out ++ seg ++ List.replicate (r - k) 0).length = o + r := by simp [h5, segl]; omega
    have c9 : (0 : Int) ≤ ((o + k : Nat) : Int) := by omega
    have c10 : (((o + k : Nat) : Int) ≤ ((o + r : Nat) : Int)) := by omega
    have l2 : ([0, 255] : List UInt8).length = 2 := rfl
    have m2 : Nat.min 2 (o + r - (o + k)) = 2 := Nat.min_eq_left (by omega)
    have sp2 := splice_at (out ++ seg) [0, 255] (r - k) 2 (o + k) (by simp [h5, segl]) rfl (by omega)
    have w3 : IntKind.wrap .i64 (((o + k : Nat) : Int) + ((2 : Nat) : Int)) = ((o + k + 2 : Nat) : Int) := by rw [wrap_in _ (by omega) (by omega)]; omega
    have l1 : ([PV.int .u8 0] : List PV).length = 1 := rfl
    have w4 : IntKind.wrap .i64 (((p + k : Nat) : Int) + ((1 : Nat) : Int)) = ((p + k + 1 : Nat) : Int) := by rw [wrap_in _ (by omega) (by omega)]; omega
    have w5 := wrap_nat i (by omega)
    have ih := replace_loop rec n s hs hrec c m (p + k + 1) (o + k + 2) (r - k - 2) (i + 1) (out ++ seg ++ [0, 255]) (by omega) cnt (by omega) (by omega) (by simp [h5, segl]; omega) (by omega) (by omega) (by omega)
    have e1 : ((i + (c + 1) : Nat) : Int) = ((i + 1 + c : Nat) : Int) := by omega
    rw [e1] at c1
    rw [e1]
    simp only [c1, c2, c3, c4, c5, c6, c7, c8, c9, c10, decide_true, ifB_eq, if_true, needB_true, bb_length, Int.toNat_natCast, bb_drop, bb_take, bb_append, hr, callB_some, ok_3, List.headD_cons, fvF, pvF, toI_int, w1, eseg, ln, segl, m1, sp1, w2, ln2, l2, m2, sp2, w3, l1, w4, w5, ih]
    rw [k4, escW_append, escW_none _ _ _ k3]
    simp [escW, List.append_assoc]
theorem s28' (N : Nat) (s : List UInt8) (hN : s.length + 10 ≤ N) (hs : s.length ≤ 1000000000) : pcall C N 66 [vR s, v0, vR [0, 255], vI (-1)] = some ([vO (escW 0 [0, 255] s)], []) := by
  obtain ⟨n, rfl⟩ : ∃ n, N = n + 3 := ⟨N - 3, by omega⟩
  rw [pcall_step (by rfl) (by rfl), show ([vR s, v0, vR [0, 255], vI (-1)] : List OV) = [OV.flat (FV.val (PV.sl none (bb s))), OV.flat (FV.val (PV.sl none [PV.int .u8 0])), OV.flat (FV.val (PV.sl none [PV.int .u8 0, PV.int .u8 255])), OV.flat (FV.val (PV.int .i64 (-1 : Int)))] from rfl, f66_bytes_Replace_eq]
  unfold f66_bytes_Replace f66_bytes_Replace.pre
  have h := s31' (n + 1) s
  by_cases h0 : s.count 0 = 0
  · rw [h0] at h
    have b1 : Nat.ble ((0 + s.length) * 1) 140737488355328 = true := by rw [Nat.ble_eq]; omega
    have b2 : Nat.ble (0 + s.length) 9223372036854775807 = true := by rw [Nat.ble_eq]; omega
    have e0 : ((((0 : Nat) : Int) == (0 : Int)) : Bool) = true := rfl
    simp only [h, callB_some, ok_3, needB_true, List.headD_cons, fvF, pvF, toI_int, e0, ifB_eq, if_true, List.length_nil, bb_length, b1, b2, List.nil_append]
    rw [escW_none _ _ _ h0]
  · have hc : s.count 0 ≤ s.length := List.count_le_length
    have e0 : (((s.count 0 : Nat) : Int) == (0 : Int)) = false := by simp; omega
    have w1 : IntKind.wrap .i64 (((s.count 0 : Nat) : Int) * 1) = ((s.count 0 : Nat) : Int) := by rw [Int.mul_one, wrap_in _ (by omega) (by omega)]
    have w2 : IntKind.wrap .i64 (((s.length : Nat) : Int) + ((s.count 0 : Nat) : Int)) = ((s.length + s.count 0 : Nat) : Int) := by rw [wrap_in _ (by omega) (by omega)]; omega
    have c1 : (0 : Int) ≤ ((s.length + s.count 0 : Nat) : Int) := by omega
    have b1 : Nat.ble (1 * (s.length + s.count 0)) 140737488355328 = true := by rw [Nat.ble_eq]; omega
    have b2 : Nat.ble (s.length + s.count 0) 9223372036854775807 = true := by rw [Nat.ble_eq]; omega
    have hrec : ∀ l : List UInt8, pcall C (n + 2) 80 [vR l, v0] = some ([vI (Lib.indexByte l 0)], []) := fun l => s32' n l
    have hl := replace_loop (pcall C (n + 2)) (n + 2) s hs hrec (s.count 0) (n + 2) 0 0 (s.length + s.count 0) 0 [] (by omega) rfl (by omega) (by omega) rfl (by omega) (by omega) (by omega)
    rw [List.nil_append, List.nil_append, List.drop_zero, Nat.zero_add] at hl
    have rp : List.replicate (s.length + s.count 0) (PV.int .u8 0) = bb (List.replicate (s.length + s.count 0) 0) := by simp [bb, pvByte]
    simp only [h, callB_some, ok_3, needB_true, List.headD_cons, fvF, pvF, toI_int, e0, ifB_eq, Bool.false_eq_true, if_false, bb_length, w1, w2, c1, decide_true, beq_self_eq_true, Int.toNat_natCast, b1, b2, rp]
    exact hl
theorem s21' (N : Nat) (s : List UInt8) (hN : s.length + 11 ≤ N) (hs : s.length ≤ 1000000000) : pcall C N 52 [vR s, v0, vR [0, 255]] = some ([vO (escW 0 [0, 255] s)], []) := by
  obtain ⟨n, rfl⟩ : ∃ n, N = n + 1 := ⟨N - 1, by omega⟩
  rw [pcall_step (by rfl) (by rfl), show ([vR s, v0, vR [0, 255]] : List OV) = [OV.flat (FV.val (PV.sl none (bb s))), OV.flat (FV.val (PV.sl none [PV.int .u8 0])), OV.flat (FV.val (PV.sl none [PV.int .u8 0, PV.int .u8 255]))] from rfl, f52_bytes_ReplaceAll_eq]
  unfold f52_bytes_ReplaceAll
  have h : pcall C n 66 [OV.flat (FV.val (PV.sl none (bb s))), OV.flat (FV.val (PV.sl none [PV.int .u8 0])), OV.flat (FV.val (PV.sl none [PV.int .u8 0, PV.int .u8 255])), OV.flat (FV.val (PV.int .i64 (-1 : Int)))] = _ := s28' n s (by omega) hs
  simp only [h, callB_some, ok22, needB_true, List.headD_cons, fvF, xsO]
/-- A text's key. -/
def tkey (s : List UInt8) : List UInt8 := escW 0 [0, 255] s ++ [0, 0]
theorem s8' (N : Nat) (s : List UInt8) (hN : s.length + 12 ≤ N) (hs : s.length ≤ 1000000000) : pcall C N 39 [.flat (.val (.str s))] = some ([vO (tkey s)], []) := by
  obtain ⟨n, rfl⟩ : ∃ n, N = n + 1 := ⟨N - 1, by omega⟩
  rw [pcall_step (by rfl) (by rfl), f39_plain_TextKey_eq]
  unfold f39_plain_TextKey
  have h : pcall C n 52 [OV.flat (FV.val (PV.sl none (List.map pvByte s))), OV.flat (FV.val (PV.sl none [PV.int .u8 0])), OV.flat (FV.val (PV.sl none [PV.int .u8 0, PV.int .u8 255]))] = _ := s21' n s (by omega) hs
  have hl := escW_len s 0 0 255
  have hc : s.count 0 ≤ s.length := List.count_le_length
  have b0 : Nat.ble s.length 9223372036854775807 = true := by rw [Nat.ble_eq]; omega
  have l2 : ([PV.int .u8 0, PV.int .u8 0] : List PV).length = 2 := rfl
  have b1 : Nat.ble (((escW 0 [0, 255] s).length + 2) * 1) 140737488355328 = true := by rw [Nat.ble_eq]; omega
  have b2 : Nat.ble ((escW 0 [0, 255] s).length + 2) 9223372036854775807 = true := by rw [Nat.ble_eq]; omega
  simp only [b0, needB_true, h, callB_some, ok22, List.headD_cons, fvF, xsO, bb_length, l2, b1, b2]
  rw [show bb (escW 0 [0, 255] s) ++ [PV.int .u8 0, PV.int .u8 0] = bb (tkey s) by unfold tkey; simp [bb, pvByte]]
end Go.Proofs.YtgcjhapomljekaaDoor

open Go Go.Ev

set_option linter.unusedSimpArgs false

set_option linter.unusedVariables false

set_option maxHeartbeats 1000000

namespace Go.Proofs.YtgcjhapomljekaaDoor

theorem tkey_len (s : List UInt8) : (tkey s).length ≤ 2 * s.length + 2 := by
  have hl := escW_len s 0 0 255
  have hc : s.count 0 ≤ s.length := List.count_le_length
  simp [tkey, hl]; omega
theorem rtext_loop (rec : Rec) (n : Nat) (s : List UInt8) (hs : s.length ≤ 1000000000) : ∀ (m i : Nat) (out : List UInt8), s.length < m + i → i ≤ s.length → out.length ≤ 2 * i →
    f43_vestryref01_TextKey.l0 rec n m s (bb out) (i : Int) = some ([vO (out ++ tkey (s.drop i))], [])
  | 0, i, out, h1, h2, h3 => by omega
  | m + 1, i, out, h1, h2, h3 => by
    show f43_vestryref01_TextKey.l0.step rec n (f43_vestryref01_TextKey.l0 rec n m) _ _ _ = _
    unfold f43_vestryref01_TextKey.l0.step
    by_cases hi : i < s.length
    · have c1 : ((i : Int) < (s.length : Int)) := by omega
      have c2 : (0 : Int) ≤ (i : Int) := by omega
      have w := wrap_nat i (by omega)
      have hd : s.drop i = s[i] :: s.drop (i + 1) := List.drop_eq_getElem_cons hi
      have hg : List.getD s i 0 = s[i] := by simp [List.getD, hi]
      have pb : PV.int .u8 ((s[i].toNat : Nat) : Int) = pvByte s[i] := rfl
      have p5 : PV.int .u8 (255 : Int) = pvByte 255 := rfl
      have l1 : ∀ x : PV, ([x] : List PV).length = 1 := fun _ => rfl
      have a1 : bb out ++ [pvByte s[i]] = bb (out ++ [s[i]]) := by simp [bb]
      have a2 : bb (out ++ [s[i]]) ++ [pvByte 255] = bb (out ++ [s[i]] ++ [255]) := by simp [bb]
      have b1 : Nat.ble ((out.length + 1) * 1) 140737488355328 = true := by rw [Nat.ble_eq]; omega
      have b2 : Nat.ble (out.length + 1) 9223372036854775807 = true := by rw [Nat.ble_eq]; omega
      have ln : (out ++ [s[i]]).length = out.length + 1 := by simp
      have b3 : Nat.ble ((out.length + 1 + 1) * 1) 140737488355328 = true := by rw [Nat.ble_eq]; omega
      have b4 : Nat.ble (out.length + 1 + 1) 9223372036854775807 = true := by rw [Nat.ble_eq]; omega
      have ih1 := rtext_loop rec n s hs m (i + 1) (out ++ [s[i]] ++ [255]) (by omega) (by omega) (by simp; omega)
      have ih2 := rtext_loop rec n s hs m (i + 1) (out ++ [s[i]]) (by omega) (by omega) (by simp; omega)
      have ev : (((s[i].toNat : Nat) : Int) == (0 : Int)) = decide (s[i] = 0) := by
        by_cases h : s[i] = 0
        · rw [h]; rfl
        · have : s[i].toNat ≠ 0 := fun e => h (UInt8.toNat_inj.mp e)
          rw [decide_eq_false h]
          exact decide_eq_false (by omega)
      simp only [c1, c2, decide_true, ifB_eq, if_true, needB_true, bb_length, Int.toNat_natCast, hg, pb, p5, l1, a1, a2, b1, b2, ln, b3, b4, w, ih1, ih2, ev]
      rw [hd]
      unfold tkey
      simp only [escW]
      by_cases h : s[i] = 0
      · simp [h]
      · simp [h]
    · have c1 : ¬ ((i : Int) < (s.length : Int)) := by omega
      have hd : s.drop i = [] := List.drop_eq_nil_of_le (by omega)
      have l2 : ([PV.int .u8 (0 : Int), PV.int .u8 (0 : Int)] : List PV).length = 2 := rfl
      have b1 : Nat.ble ((out.length + 2) * 1) 140737488355328 = true := by rw [Nat.ble_eq]; omega
      have b2 : Nat.ble (out.length + 2) 9223372036854775807 = true := by rw [Nat.ble_eq]; omega
      simp only [c1, decide_false, ifB_eq, Bool.false_eq_true, if_false, bb_length, l2, b1, b2, needB_true]
      rw [hd, show bb out ++ [PV.int .u8 0, PV.int .u8 0] = bb (out ++ tkey []) by simp [bb, pvByte, tkey, escW]]
theorem s13' (N : Nat) (s : List UInt8) (hN : s.length + 2 ≤ N) (hs : s.length ≤ 1000000000) : pcall C N 43 [.flat (.val (.str s))] = some ([vO (tkey s)], []) := by
  obtain ⟨n, rfl⟩ : ∃ n, N = n + 1 := ⟨N - 1, by omega⟩
  rw [pcall_step (by rfl) (by rfl), f43_vestryref01_TextKey_eq]
  unfold f43_vestryref01_TextKey f43_vestryref01_TextKey.pre
  have := rtext_loop (pcall C n) n s hs n 0 [] (by omega) (by omega) (by simp)
  rw [List.nil_append, List.drop_zero] at this
  exact this

/-- A text out of bytes: the text, where it ends, what is wrong. -/
def takeT : List UInt8 → Nat → List UInt8 → List UInt8 × Nat × Int
  | [], _, _ => ([], 0, 3)
  | [_], _, _ => ([], 0, 3)
  | b :: c :: r, p, out => if b = 0 then (if c = 0 then (out, p + 2, 0) else if c = 255 then takeT r (p + 2) (out ++ [0]) else ([], 0, 4)) else takeT (c :: r) (p + 1) (out ++ [b])
theorem takeT_no : ∀ (b : UInt8) (r : List UInt8) (p : Nat) (out : List UInt8), b ≠ 0 → takeT (b :: r) p out = takeT r (p + 1) (out ++ [b])
  | b, [], p, out, h => rfl
  | b, c :: r, p, out, h => by simp only [takeT]; rw [if_neg h]
theorem takeT_none : ∀ (l : List UInt8) (p : Nat) (out : List UInt8), l.count 0 = 0 → takeT l p out = ([], 0, 3)
  | [], p, out, h => rfl
  | b :: r, p, out, h => by
    rw [List.count_cons] at h
    have hb : b ≠ 0 := by rintro rfl; simp at h
    rw [takeT_no b r p out hb]
    exact takeT_none r _ _ (by omega)
theorem takeT_seg : ∀ (seg r : List UInt8) (p : Nat) (out : List UInt8), seg.count 0 = 0 → takeT (seg ++ r) p out = takeT r (p + seg.length) (out ++ seg)
  | [], r, p, out, h => by simp
  | b :: t, r, p, out, h => by
    rw [List.count_cons] at h
    have hb : b ≠ 0 := by rintro rfl; simp at h
    rw [List.cons_append, takeT_no b _ p out hb, takeT_seg t r _ _ (by omega)]
    simp only [List.length_cons, List.append_assoc, List.cons_append, List.nil_append]
    congr 1
    omega
theorem toI0 (b : UInt8) : ((((b.toNat : Nat) : Int) == (0 : Int)) : Bool) = decide (b = 0) := by
  by_cases h : b = 0
  · rw [h]; rfl
  · have : b.toNat ≠ 0 := fun e => h (UInt8.toNat_inj.mp e)
    rw [decide_eq_false h]
    exact decide_eq_false (by omega)
theorem toI0' (b : UInt8) : ((((b.toNat : Nat) : Int) != (0 : Int)) : Bool) = !decide (b = 0) := by
  rw [← toI0]; rfl
theorem toI255 (b : UInt8) : ((((b.toNat : Nat) : Int) == (255 : Int)) : Bool) = decide (b = 255) := by
  by_cases h : b = 255
  · rw [h]; rfl
  · have : b.toNat ≠ 255 := fun e => h (UInt8.toNat_inj.mp e)
    rw [decide_eq_false h]
    exact decide_eq_false (by omega)
theorem toI255' (b : UInt8) : ((((b.toNat : Nat) : Int) != (255 : Int)) : Bool) = !decide (b = 255) := by
  rw [← toI255]; rfl
abbrev vS (l : List UInt8) : OV := .flat (.val (.str l))
theorem rtake_loop (rec : Rec) (n : Nat) (l : List UInt8) (hl : l.length ≤ 1000000000) : ∀ (m p : Nat) (out : List UInt8), l.length < m + p → p ≤ l.length → out.length ≤ p →
    f45_vestryref01_TakeTextKey.l0 rec n m (bb l) (bb out) (p : Int) = some ([vS (takeT (l.drop p) p out).1, vI ((takeT (l.drop p) p out).2.1 : Int), vI (takeT (l.drop p) p out).2.2], [])
  | 0, p, out, h1, h2, h3 => by omega
  | m + 1, p, out, h1, h2, h3 => by
    show f45_vestryref01_TakeTextKey.l0.step rec n (f45_vestryref01_TakeTextKey.l0 rec n m) _ _ _ = _
    unfold f45_vestryref01_TakeTextKey.l0.step
    by_cases hi : p < l.length
    · have c1 : ((p : Int) < (l.length : Int)) := by omega
      have c2 : (0 : Int) ≤ (p : Int) := by omega
      have w := wrap_nat p (by omega)
      have hd : l.drop p = l[p] :: l.drop (p + 1) := List.drop_eq_getElem_cons hi
      have pb : PV.int .u8 ((l[p].toNat : Nat) : Int) = pvByte l[p] := rfl
      have p5 : PV.int .u8 (0 : Int) = pvByte 0 := rfl
      have l1 : ∀ x : PV, ([x] : List PV).length = 1 := fun _ => rfl
      have a1 : bb out ++ [pvByte l[p]] = bb (out ++ [l[p]]) := by simp [bb]
      have a2 : bb out ++ [pvByte 0] = bb (out ++ [0]) := by simp [bb]
      have b1 : Nat.ble ((out.length + 1) * 1) 140737488355328 = true := by rw [Nat.ble_eq]; omega
      have b2 : Nat.ble (out.length + 1) 9223372036854775807 = true := by rw [Nat.ble_eq]; omega
      have ih1 := rtake_loop rec n l hl m (p + 1) (out ++ [l[p]]) (by omega) (by omega) (by simp; omega)
      simp only [c1, c2, decide_true, ifB_eq, if_true, needB_true, bb_length, Int.toNat_natCast, nth_bb hi, hasT5, toI_byte, toI0', pb, p5, l1, a1, a2, b1, b2, w, ih1]
      by_cases hz : l[p] = 0
      · by_cases he : p + 1 = l.length
        · have e1 : ((((p + 1 : Nat) : Int) == (l.length : Int)) : Bool) = true := by rw [he]; simp
          have hd2 : l.drop (p + 1) = [] := List.drop_eq_nil_of_le (by omega)
          simp only [hz, decide_true, Bool.not_true, Bool.false_eq_true, if_false, e1, if_true, hd, hd2, takeT]
          rfl
        · have e1 : ((((p + 1 : Nat) : Int) == (l.length : Int)) : Bool) = false := decide_eq_false (by omega)
          have hi2 : p + 1 < l.length := by omega
          have hd2 : l.drop (p + 1) = l[p + 1] :: l.drop (p + 2) := List.drop_eq_getElem_cons hi2
          have c3 : (0 : Int) ≤ ((p + 1 : Nat) : Int) := by omega
          have c4 : (((p + 1 : Nat) : Int) < (l.length : Int)) := by omega
          have w2 : IntKind.wrap .i64 ((p : Int) + 2) = ((p + 2 : Nat) : Int) := by rw [wrap_in _ (by omega) (by omega)]; omega
          have w3 := wrap_nat (p + 1) (by omega)
          have ih2 := rtake_loop rec n l hl m (p + 1 + 1) (out ++ [0]) (by omega) (by omega) (by simp; omega)
          simp only [hz, decide_true, Bool.not_true, Bool.false_eq_true, if_false, e1, c3, c4, needB_true, Int.toNat_natCast, nth_bb hi2, hasT5, toI_byte, toI0, toI255', isByte_bb, u8_bb, w2, w3, ih2, hd, hd2, takeT, if_true]
          by_cases h0 : l[p + 1] = 0
          · simp only [h0, decide_true, if_true]
          · by_cases h5 : l[p + 1] = 255
            · simp only [h5, show ((255 : UInt8) = 0) = False from by decide, decide_true, decide_false, Bool.not_true, Bool.false_eq_true, if_false, if_true]
            · simp only [h0, h5, decide_false, Bool.not_false, Bool.false_eq_true, if_false, if_true]
              rfl
      · simp only [hz, decide_false, Bool.not_false, if_true]
        rw [hd, takeT_no _ _ _ _ hz]
    · have c1 : ¬ ((p : Int) < (l.length : Int)) := by omega
      have hd : l.drop p = [] := List.drop_eq_nil_of_le (by omega)
      simp only [bb_length, c1, decide_false, ifB_eq, Bool.false_eq_true, if_false, hd, takeT]
      rfl
theorem s11' (N : Nat) (l : List UInt8) (hN : l.length + 2 ≤ N) (hl : l.length ≤ 1000000000) : pcall C N 45 [vR l] = some ([vS (takeT l 0 []).1, vI ((takeT l 0 []).2.1 : Int), vI (takeT l 0 []).2.2], []) := by
  obtain ⟨n, rfl⟩ : ∃ n, N = n + 1 := ⟨N - 1, by omega⟩
  rw [pcall_step (by rfl) (by rfl), f45_vestryref01_TakeTextKey_eq]
  unfold f45_vestryref01_TakeTextKey f45_vestryref01_TakeTextKey.pre
  exact rtake_loop (pcall C n) n l hl n 0 [] (by omega) (by omega) (by simp)
theorem take_loop' (rec : Rec) (n : Nat) (l : List UInt8) (hl : l.length ≤ 1000000000) (hrec : ∀ l : List UInt8, rec 54 [vR l, .flat (.val (.int .u8 0))] = some ([vI (Lib.indexByte l 0)], [])) : ∀ (m p : Nat) (out : List UInt8), l.length < m + p → p ≤ l.length → out.length ≤ p →
    f41_plain_TakeTextKey.l0 rec n m (bb l) (bb out) (p : Int) = some ([vS (takeT (l.drop p) p out).1, vI ((takeT (l.drop p) p out).2.1 : Int), vI (takeT (l.drop p) p out).2.2], [])
  | 0, p, out, h1, h2, h3 => by omega
  | m + 1, p, out, h1, h2, h3 => by
    show f41_plain_TakeTextKey.l0.step rec n (f41_plain_TakeTextKey.l0 rec n m) _ _ _ = _
    unfold f41_plain_TakeTextKey.l0.step
    by_cases hi : p < l.length
    · have c1 : ((p : Int) < (l.length : Int)) := by omega
      have c2 : (0 : Int) ≤ (p : Int) := by omega
      have c3 : ((p : Int) ≤ (l.length : Int)) := by omega
      have hr := hrec (l.drop p)
      by_cases hc : (l.drop p).count 0 = 0
      · rw [index_none _ _ hc] at hr
        have c4 : ((-1 : Int) < 0) := by decide
        simp only [c1, c2, c3, decide_true, ifB_eq, if_true, needB_true, bb_length, Int.toNat_natCast, bb_drop, hr, callB_some, ok_3, List.headD_cons, fvF, pvF, toI_int, c4]
        rw [takeT_none _ _ _ hc]
        rfl
      · obtain ⟨k, k1, k2, k3, k4⟩ := index_some (l.drop p) 0 (by omega)
        rw [k1] at hr
        obtain ⟨seg, hseg⟩ : ∃ seg, (l.drop p).take k = seg := ⟨_, rfl⟩
        rw [List.length_drop] at k2
        have segl : seg.length = k := by rw [← hseg, List.length_take, List.length_drop]; omega
        have eseg : List.drop p (List.take (p + k) l) = seg := by
          rw [List.drop_take, Nat.add_sub_cancel_left, hseg]
        rw [hseg] at k3 k4
        rw [List.drop_drop, ← Nat.add_assoc] at k4
        have tk : takeT (l.drop p) p out = takeT (0 :: l.drop (p + k + 1)) (p + k) (out ++ seg) := by
          rw [k4, takeT_seg _ _ _ _ k3, segl]
        have c4 : ¬ ((k : Int) < 0) := by omega
        have w1 : IntKind.wrap .i64 ((p : Int) + (k : Int)) = ((p + k : Nat) : Int) := by rw [wrap_in _ (by omega) (by omega)]; omega
        have w2 := wrap_nat (p + k) (by omega)
        simp only [c1, c2, c3, decide_true, ifB_eq, if_true, needB_true, bb_length, Int.toNat_natCast, bb_drop, hr, callB_some, ok_3, List.headD_cons, fvF, pvF, toI_int, c4, decide_false, Bool.false_eq_true, if_false, w1, w2]
        by_cases he : p + k + 1 = l.length
        · have e1 : ((((p + k + 1 : Nat) : Int) == (l.length : Int)) : Bool) = true := by rw [he]; simp
          have hd2 : l.drop (p + k + 1) = [] := List.drop_eq_nil_of_le (by omega)
          simp only [e1, if_true, tk, hd2, takeT]
          rfl
        · have e1 : ((((p + k + 1 : Nat) : Int) == (l.length : Int)) : Bool) = false := decide_eq_false (by omega)
          have hi2 : p + k + 1 < l.length := by omega
          have hd2 : l.drop (p + k + 1) = l[p + k + 1] :: l.drop (p + k + 2) := List.drop_eq_getElem_cons hi2
          have c5 : ((p : Int) ≤ ((p + k : Nat) : Int)) := by omega
          have c6 : (((p + k : Nat) : Int) ≤ (l.length : Int)) := by omega
          have b1 : Nat.ble ((out.length + seg.length) * 1) 140737488355328 = true := by rw [Nat.ble_eq]; omega
          have b2 : Nat.ble (out.length + seg.length) 9223372036854775807 = true := by rw [Nat.ble_eq]; omega
          have w3 : IntKind.wrap .i64 ((k : Int) + 2) = ((k + 2 : Nat) : Int) := by rw [wrap_in _ (by omega) (by omega)]; omega
          have w4 : IntKind.wrap .i64 ((p : Int) + ((k + 2 : Nat) : Int)) = ((p + k + 2 : Nat) : Int) := by rw [wrap_in _ (by omega) (by omega)]; omega
          have w5 : IntKind.wrap .i64 (((p + k + 2 : Nat) : Int) - 1) = ((p + k + 1 : Nat) : Int) := by rw [wrap_in _ (by omega) (by omega)]; omega
          have c7 : (0 : Int) ≤ ((p + k + 1 : Nat) : Int) := by omega
          have c8 : (((p + k + 1 : Nat) : Int) < (l.length : Int)) := by omega
          have l1 : ∀ x : PV, ([x] : List PV).length = 1 := fun _ => rfl
          have ln : (out ++ seg).length = out.length + seg.length := by simp
          have b3 : Nat.ble ((out.length + seg.length + 1) * 1) 140737488355328 = true := by rw [Nat.ble_eq]; omega
          have b4 : Nat.ble (out.length + seg.length + 1) 9223372036854775807 = true := by rw [Nat.ble_eq]; omega
          have p5 : PV.int .u8 (0 : Int) = pvByte 0 := rfl
          have a2 : bb (out ++ seg) ++ [pvByte 0] = bb (out ++ seg ++ [0]) := by simp [bb]
          have ih := take_loop' rec n l hl hrec m (p + k + 2) (out ++ seg ++ [0]) (by omega) (by omega) (by simp; omega)
          simp only [e1, Bool.false_eq_true, if_false, c2, c5, c6, c7, c8, decide_true, needB_true, Int.toNat_natCast, bb_drop, bb_take, eseg, bb_append, bb_length, ln, b1, b2, w3, w4, w5, nth_bb hi2, hasT5, toI_byte, toI0, toI255, isByte_bb, u8_bb, l1, b3, b4, p5, a2, ih]
          rw [tk, hd2]
          simp only [takeT, if_true]
          by_cases h0 : l[p + k + 1] = 0
          · simp only [h0, decide_true, if_true]
          · by_cases h5 : l[p + k + 1] = 255
            · simp only [h5, show ((255 : UInt8) = 0) = False from by decide, decide_true, decide_false, Bool.false_eq_true, if_false, if_true]
            · simp only [h0, h5, decide_false, Bool.false_eq_true, if_false]
              rfl
    · have c1 : ¬ ((p : Int) < (l.length : Int)) := by omega
      have hd : l.drop p = [] := List.drop_eq_nil_of_le (by omega)
      simp only [bb_length, c1, decide_false, ifB_eq, Bool.false_eq_true, if_false, hd, takeT]
      rfl
theorem s10' (N : Nat) (l : List UInt8) (hN : l.length + 3 ≤ N) (hl : l.length ≤ 1000000000) : pcall C N 41 [vR l] = some ([vS (takeT l 0 []).1, vI ((takeT l 0 []).2.1 : Int), vI (takeT l 0 []).2.2], []) := by
  obtain ⟨n, rfl⟩ : ∃ n, N = n + 2 := ⟨N - 2, by omega⟩
  rw [pcall_step (by rfl) (by rfl), f41_plain_TakeTextKey_eq]
  unfold f41_plain_TakeTextKey f41_plain_TakeTextKey.pre
  exact take_loop' (pcall C (n + 1)) (n + 1) l hl (fun l => s22' n l) (n + 1) 0 [] (by omega) (by omega) (by simp)
end Go.Proofs.YtgcjhapomljekaaDoor

open Go Go.Ev

set_option linter.unusedSimpArgs false

set_option linter.unusedVariables false

set_option maxHeartbeats 1000000

namespace Go.Proofs.YtgcjhapomljekaaDoor

/-! texts -/
theorem takeT_esc : ∀ (s : List UInt8) (p : Nat) (out rest : List UInt8), takeT (escW 0 [0, 255] s ++ 0 :: 0 :: rest) p out = (out ++ s, p + (escW 0 [0, 255] s).length + 2, 0)
  | [], p, out, rest => by simp [escW, takeT]
  | x :: t, p, out, rest => by
    by_cases h : x = 0
    · have ih := takeT_esc t (p + 2) (out ++ [0]) rest
      subst h
      simp only [escW, if_true, List.cons_append, List.nil_append, takeT, show ((255 : UInt8) = 0) = False from by decide, if_false]
      rw [ih]
      simp; omega
    · have ih := takeT_esc t (p + 1) (out ++ [x]) rest
      simp only [escW, if_neg h, List.cons_append]
      rw [takeT_no _ _ _ _ h, ih]
      simp; omega
theorem takeT_tkey (s rest : List UInt8) : takeT (tkey s ++ rest) 0 [] = (s, (tkey s).length, 0) := by
  have := takeT_esc s 0 [] rest
  unfold tkey
  rw [List.append_assoc]
  show takeT (escW 0 [0, 255] s ++ 0 :: 0 :: rest) 0 [] = _
  rw [this]
  simp
theorem takeT_back : ∀ (l : List UInt8) (p : Nat) (out u : List UInt8) (o : Nat), takeT l p out = (u, o, 0) → ∃ mid, u = out ++ mid ∧ o = p + (tkey mid).length ∧ (tkey mid).length ≤ l.length ∧ l.take (tkey mid).length = tkey mid
  | [], p, out, u, o, h => by simp [takeT] at h
  | [b], p, out, u, o, h => by simp [takeT] at h
  | b :: c :: r, p, out, u, o, h => by
    simp only [takeT] at h
    by_cases hb : b = 0
    · rw [if_pos hb] at h
      subst hb
      by_cases hc : c = 0
      · rw [if_pos hc] at h
        subst hc
        simp only [Prod.mk.injEq, and_true] at h
        obtain ⟨rfl, rfl⟩ := h
        exact ⟨[], by simp, by simp [tkey, escW], by simp [tkey, escW], by simp [tkey, escW]⟩
      · rw [if_neg hc] at h
        by_cases h5 : c = 255
        · rw [if_pos h5] at h
          subst h5
          obtain ⟨mid, h1, h2, h3, h4⟩ := takeT_back r (p + 2) (out ++ [0]) u o h
          have e : tkey (0 :: mid) = 0 :: 255 :: tkey mid := by simp [tkey, escW]
          refine ⟨0 :: mid, by rw [h1]; simp, by rw [e]; simp; omega, by rw [e]; simp; omega, ?_⟩
          rw [e]
          simp [h4]
        · rw [if_neg h5] at h
          simp at h
    · rw [if_neg hb] at h
      obtain ⟨mid, h1, h2, h3, h4⟩ := takeT_back (c :: r) (p + 1) (out ++ [b]) u o h
      have e : tkey (b :: mid) = b :: tkey mid := by simp [tkey, escW, hb]
      refine ⟨b :: mid, by rw [h1]; simp, by rw [e]; simp; omega, by rw [e]; simpa using h3, ?_⟩
      rw [e]
      simp [h4]
/-! numbers -/
theorem be8_nat (x : Int) : be 8 x = be 8 (((x % 18446744073709551616).toNat : Nat) : Int) := by
  apply be_mod
  intro i hi
  match i, hi with
  | 0, _ => simp only [Int.pow_zero]; omega
  | 1, _ => rw [show (256 : Int) ^ 1 = 256 by decide]; omega
  | 2, _ => rw [show (256 : Int) ^ 2 = 65536 by decide]; omega
  | 3, _ => rw [show (256 : Int) ^ 3 = 16777216 by decide]; omega
  | 4, _ => rw [show (256 : Int) ^ 4 = 4294967296 by decide]; omega
  | 5, _ => rw [show (256 : Int) ^ 5 = 1099511627776 by decide]; omega
  | 6, _ => rw [show (256 : Int) ^ 6 = 281474976710656 by decide]; omega
  | 7, _ => rw [show (256 : Int) ^ 7 = 72057594037927936 by decide]; omega
theorem val_be8 (x : Int) : valN 0 (be 8 x) = (x % 18446744073709551616).toNat := by
  rw [be8_nat, valN_be 8 _ (by rw [show (256 : Nat) ^ 8 = 18446744073709551616 by decide]; omega)]
theorem take8 (x : Int) (b : List UInt8) : (be 8 x ++ b).take 8 = be 8 x := by
  rw [List.take_append_of_le_length (by rw [be_length]; exact Nat.le_refl _), List.take_of_length_le (by rw [be_length]; exact Nat.le_refl _)]
theorem takeNum_be (x : Int) (h0 : -9223372036854775808 ≤ x) (h1 : x ≤ 9223372036854775807) (b : List UInt8) : takeNumN (be 8 x ++ b) = (x, 8, 0) := by
  unfold takeNumN
  rw [if_neg (by simp [be_length]), take8, val_be8]
  have : w64 ((x % 18446744073709551616).toNat : Int) = x := by
    simp only [w64, IntKind.wrap_i64]; omega
  rw [this]
theorem takeKey_be (x : Int) (h0 : -9223372036854775808 ≤ x) (h1 : x ≤ 9223372036854775807) (b : List UInt8) : takeKeyN (keyOf x ++ b) = (x, 8, 0) := by
  unfold takeKeyN
  rw [key_be, if_neg (by simp [be_length]), take8, val_be8]
  have : w64 ((((x + 9223372036854775808) % 18446744073709551616).toNat : Int) + 9223372036854775808) = x := by
    simp only [w64, IntKind.wrap_i64]; omega
  rw [this]
theorem be_val : ∀ (n : Nat) (l : List UInt8), l.length = n → be n (valN 0 l : Int) = l
  | 0, l, h => by
    have := List.eq_nil_of_length_eq_zero h
    subst this
    rfl
  | n + 1, l, h => by
    have hne : l ≠ [] := by rintro rfl; simp at h
    have e := List.dropLast_concat_getLast hne
    obtain ⟨a, b, rfl⟩ : ∃ a b, l = a ++ [b] := ⟨_, _, e.symm⟩
    have ha : a.length = n := by simpa using h
    have hb := b.toNat_lt
    rw [valN_snoc, be_last]
    have e1 : (((valN 0 a * 256 + b.toNat : Nat) : Int)) / 256 = (valN 0 a : Int) := by omega
    have e2 : byteOf ((valN 0 a * 256 + b.toNat : Nat) : Int) = b := by
      apply UInt8.toNat_inj.mp
      have := byteOf_toNat ((valN 0 a * 256 + b.toNat : Nat) : Int)
      omega
    rw [e1, e2, be_val n a ha]
/-! rows -/
theorem takeRowGo_all : ∀ (l : List (List UInt8)) (L rest : List UInt8) (p : Nat) (acc : List (List UInt8)), fits l → L.drop p = encs l ++ rest → takeRowGo l.length L p acc = (acc ++ l, p + (encs l).length, 0)
  | [], L, rest, p, acc, h, hd => by simp [takeRowGo, encs]
  | q :: r, L, rest, p, acc, h, hd => by
    have hq := h q (by simp)
    have l4 : (be 4 (q.length : Int)).length = 4 := be_length _ _
    have e : encs (q :: r) ++ rest = be 4 (q.length : Int) ++ (q ++ (encs r ++ rest)) := by simp [encs, List.append_assoc]
    obtain ⟨_, c2⟩ := takeBlob_cut q (encs r ++ rest) (be 4 (q.length : Int) ++ (q ++ (encs r ++ rest))).length hq
    rw [List.take_length] at c2
    have tb := c2 (by simp [l4])
    rw [← e, ← hd] at tb
    show takeRowGo (r.length + 1) L p acc = _
    simp only [takeRowGo, tb, if_true]
    have hd2 : L.drop (p + ((4 + q.length : Nat) : Int).toNat) = encs r ++ rest := by
      rw [Int.toNat_natCast, ← List.drop_drop, hd, e, ← List.append_assoc, List.drop_append_of_le_length (by simp [l4]), List.drop_of_length_le (by simp [l4]), List.nil_append]
    rw [takeRowGo_all r L rest _ _ (fun x hx => h x (by simp [hx])) hd2]
    simp [encs, l4]; omega
theorem takeRow_all (l : List (List UInt8)) (hl : l.length ≤ 4096) (h : fits l) (rest : List UInt8) : takeRowN (be 4 (l.length : Int) ++ encs l ++ rest) = (l, (be 4 (l.length : Int) ++ encs l).length, 0) := by
  have l4 : (be 4 (l.length : Int)).length = 4 := be_length _ _
  unfold takeRowN
  have t4 : (be 4 (l.length : Int) ++ encs l ++ rest).take 4 = be 4 (l.length : Int) := by
    rw [List.append_assoc, List.take_append_of_le_length (by omega), List.take_of_length_le (by omega)]
  rw [if_neg (by simp [l4]), t4, valN_be 4 l.length (by omega), if_neg (by omega)]
  rw [takeRowGo_all l _ rest 4 [] h (by rw [List.append_assoc, List.drop_append_of_le_length (by omega), List.drop_of_length_le (by omega), List.nil_append])]
  simp [l4]
theorem takeBlob_back (L q : List UInt8) (used : Int) (h : takeBlobN L = (q, used, 0)) : used = ((4 + q.length : Nat) : Int) ∧ q.length ≤ 65536 ∧ 4 + q.length ≤ L.length ∧ L.take (4 + q.length) = be 4 (q.length : Int) ++ q := by
  unfold takeBlobN at h
  by_cases h1 : L.length < 4
  · rw [if_pos h1] at h; simp at h
  · by_cases h2 : valN 0 (L.take 4) > 65536
    · rw [if_neg h1, if_pos h2] at h; simp at h
    · by_cases h3 : L.length < 4 + valN 0 (L.take 4)
      · rw [if_neg h1, if_neg h2, if_pos h3] at h; simp at h
      · rw [if_neg h1, if_neg h2, if_neg h3] at h
        simp only [Prod.mk.injEq, and_true] at h
        obtain ⟨rfl, rfl⟩ := h
        have hl : ((L.drop 4).take (valN 0 (L.take 4))).length = valN 0 (L.take 4) := by rw [List.length_take, List.length_drop]; omega
        rw [hl]
        refine ⟨rfl, by omega, by omega, ?_⟩
        have b4 := be_val 4 (L.take 4) (by rw [List.length_take]; omega)
        rw [b4, List.take_add]
theorem takeRowGo_back : ∀ (k : Nat) (L : List UInt8) (p : Nat) (acc y : List (List UInt8)) (m : Nat), p ≤ L.length → takeRowGo k L p acc = (y, m, 0) → ∃ ys, y = acc ++ ys ∧ ys.length = k ∧ fits ys ∧ m = p + (encs ys).length ∧ m ≤ L.length ∧ (L.drop p).take (encs ys).length = encs ys
  | 0, L, p, acc, y, m, hp, h => by
    simp only [takeRowGo, Prod.mk.injEq, and_true] at h
    obtain ⟨rfl, rfl⟩ := h
    exact ⟨[], by simp, rfl, fun x hx => by simp at hx, by simp [encs], hp, by simp [encs]⟩
  | k + 1, L, p, acc, y, m, hp, h => by
    simp only [takeRowGo] at h
    by_cases h0 : (takeBlobN (L.drop p)).2.2 = 0
    · rw [if_pos h0] at h
      obtain ⟨q, used, e, htb⟩ : ∃ q used e, takeBlobN (L.drop p) = (q, used, e) := ⟨_, _, _, rfl⟩
      rw [htb] at h h0
      dsimp only at h h0
      subst h0
      obtain ⟨b1, b2, b3, b4⟩ := takeBlob_back _ _ _ htb
      subst b1
      rw [Int.toNat_natCast] at h
      rw [List.length_drop] at b3
      obtain ⟨ys, y1, y2, y3, y4, y5, y6⟩ := takeRowGo_back k L (p + (4 + q.length)) (acc ++ [q]) y m (by omega) h
      have el : (encs (q :: ys)).length = 4 + q.length + (encs ys).length := by simp [encs, be_length]; omega
      refine ⟨q :: ys, by rw [y1]; simp, by simp [y2], fun x hx => ?_, by rw [el]; omega, y5, ?_⟩
      · rcases List.mem_cons.mp hx with rfl | hx
        · exact b2
        · exact y3 x hx
      · rw [el, List.take_add, b4, List.drop_drop, y6]
        simp [encs]
    · rw [if_neg h0] at h
      simp only [Prod.mk.injEq] at h
      exact absurd h.2.2 h0
theorem takeRow_back (L : List UInt8) (y : List (List UInt8)) (m : Nat) (h : takeRowN L = (y, m, 0)) : m ≤ L.length ∧ rowN y = (L.take m, 0) := by
  unfold takeRowN at h
  by_cases h1 : L.length < 4
  · rw [if_pos h1] at h; simp at h
  · by_cases h2 : valN 0 (L.take 4) > 4096
    · rw [if_neg h1, if_pos h2] at h; simp at h
    · rw [if_neg h1, if_neg h2] at h
      obtain ⟨ys, y1, y2, y3, y4, y5, y6⟩ := takeRowGo_back _ L 4 [] y m (by omega) h
      rw [List.nil_append] at y1
      subst y1
      refine ⟨y5, ?_⟩
      unfold rowN
      rw [if_neg (by omega), rowGo_ok y _ y3]
      have b4 := be_val 4 (L.take 4) (by rw [List.length_take]; omega)
      rw [y4, y2, b4, List.take_add, y6]
/-! order -/
theorem less_be : ∀ (s : Nat) (X Y : Nat) (a b : List UInt8), X % 256 ^ s ≠ Y % 256 ^ s → Op.bytesLess (be s (X : Int) ++ a) (be s (Y : Int) ++ b) = decide (X % 256 ^ s < Y % 256 ^ s)
  | 0, X, Y, a, b, h => by simp [Nat.mod_one] at h
  | s + 1, X, Y, a, b, h => by
    have eb : ∀ Z : Nat, (byteOf ((Z : Int) / 256 ^ s)).toNat = Z / 256 ^ s % 256 := by
      intro Z
      have h1 := byteOf_toNat ((Z : Int) / 256 ^ s)
      have h2 : ((Z : Int) / 256 ^ s) = ((Z / 256 ^ s : Nat) : Int) := by simp
      rw [h2] at h1
      rw [h2]
      omega
    have em : ∀ Z : Nat, Z % 256 ^ (s + 1) = Z % 256 ^ s + 256 ^ s * (Z / 256 ^ s % 256) := fun Z => by rw [Nat.pow_succ, Nat.mod_mul]
    have hM : 0 < 256 ^ s := Nat.pow_pos (by decide)
    have hx := Nat.mod_lt X hM
    have hy := Nat.mod_lt Y hM
    rw [em, em] at h ⊢
    show (decide (byteOf ((X : Int) / 256 ^ s) < byteOf ((Y : Int) / 256 ^ s)) || (byteOf ((X : Int) / 256 ^ s) == byteOf ((Y : Int) / 256 ^ s) && Op.bytesLess (be s (X : Int) ++ a) (be s (Y : Int) ++ b))) = _
    have e1 : decide (byteOf ((X : Int) / 256 ^ s) < byteOf ((Y : Int) / 256 ^ s)) = decide (X / 256 ^ s % 256 < Y / 256 ^ s % 256) := by
      rw [← eb X, ← eb Y]
      simp [UInt8.lt_iff_toNat_lt]
    have e2 : (byteOf ((X : Int) / 256 ^ s) == byteOf ((Y : Int) / 256 ^ s)) = decide (X / 256 ^ s % 256 = Y / 256 ^ s % 256) := by
      rw [← eb X, ← eb Y]
      by_cases hh : byteOf ((X : Int) / 256 ^ s) = byteOf ((Y : Int) / 256 ^ s)
      · simp [hh]
      · have : (byteOf ((X : Int) / 256 ^ s)).toNat ≠ (byteOf ((Y : Int) / 256 ^ s)).toNat := fun e => hh (UInt8.toNat_inj.mp e)
        simp [hh, this]
    rw [e1, e2]
    generalize hA : X / 256 ^ s % 256 = A at *
    generalize hB : Y / 256 ^ s % 256 = B at *
    generalize hu : X % 256 ^ s = u at *
    generalize hv : Y % 256 ^ s = v at *
    rcases Nat.lt_trichotomy A B with hl | hl | hl
    · have := Nat.mul_le_mul_left (256 ^ s) (show A + 1 ≤ B by omega)
      rw [Nat.mul_add, Nat.mul_one] at this
      rw [decide_eq_true hl, Bool.true_or]
      exact (decide_eq_true (by omega)).symm
    · subst hl
      rw [less_be s X Y a b (by rw [hu, hv]; intro e; exact h (by rw [e])), hu, hv]
      simp
    · have := Nat.mul_le_mul_left (256 ^ s) (show B + 1 ≤ A by omega)
      rw [Nat.mul_add, Nat.mul_one] at this
      rw [decide_eq_false (by omega : ¬ A < B), decide_eq_false (by omega : ¬ A = B), Bool.false_and, Bool.or_false]
      exact (decide_eq_false (by omega)).symm
theorem less_keys (x y : Int) (hx0 : -9223372036854775808 ≤ x) (hx1 : x ≤ 9223372036854775807) (hy0 : -9223372036854775808 ≤ y) (hy1 : y ≤ 9223372036854775807) (hne : x ≠ y) (a b : List UInt8) :
    Op.bytesLess (keyOf x ++ a) (keyOf y ++ b) = decide (x < y) := by
  have p8 : (256 : Nat) ^ 8 = 18446744073709551616 := by decide
  have ex : x + 9223372036854775808 = (((x + 9223372036854775808).toNat : Nat) : Int) := by omega
  have ey : y + 9223372036854775808 = (((y + 9223372036854775808).toNat : Nat) : Int) := by omega
  rw [key_be, key_be, ex, ey, less_be 8 _ _ a b (by rw [p8]; omega), p8]
  apply decide_eq_decide.mpr
  omega
theorem less_tkeys : ∀ (s t a b : List UInt8), s ≠ t → Op.bytesLess (tkey s ++ a) (tkey t ++ b) = Op.bytesLess s t
  | [], [], a, b, h => absurd rfl h
  | [], y :: t, a, b, h => by
    by_cases hy : y = 0
    · subst hy
      simp [tkey, escW, Op.bytesLess]
    · have : (0 : UInt8) < y := by
        rw [UInt8.lt_iff_toNat_lt]
        have : y.toNat ≠ 0 := fun e => hy (UInt8.toNat_inj.mp e)
        show 0 < y.toNat
        omega
      simp [tkey, escW, hy, Op.bytesLess, this]
  | x :: s, [], a, b, h => by
    by_cases hx : x = 0
    · subst hx
      simp [tkey, escW, Op.bytesLess]
    · have : ¬ x < (0 : UInt8) := by
        rw [UInt8.lt_iff_toNat_lt]
        exact Nat.not_lt_zero _
      simp [tkey, escW, hx, Op.bytesLess, this]
  | x :: s, y :: t, a, b, h => by
    have ih := less_tkeys s t a b
    have ez : ∀ z : List UInt8, tkey (0 :: z) = 0 :: 255 :: tkey z := fun z => by simp [tkey, escW]
    have en : ∀ (c : UInt8) (z : List UInt8), c ≠ 0 → tkey (c :: z) = c :: tkey z := fun c z hc => by simp [tkey, escW, hc]
    by_cases hx : x = 0 <;> by_cases hy : y = 0
    · subst hx; subst hy
      have hne : s ≠ t := fun e => h (by rw [e])
      rw [ez, ez]
      simp [Op.bytesLess, ih hne]
    · subst hx
      have : (0 : UInt8) < y := by
        rw [UInt8.lt_iff_toNat_lt]
        have : y.toNat ≠ 0 := fun e => hy (UInt8.toNat_inj.mp e)
        show 0 < y.toNat
        omega
      rw [ez, en y t hy]
      simp [Op.bytesLess, this]
    · subst hy
      have : ¬ x < (0 : UInt8) := by
        rw [UInt8.lt_iff_toNat_lt]
        exact Nat.not_lt_zero _
      rw [ez, en x s hx]
      have hz : (x == 0) = false := by simpa using hx
      simp [Op.bytesLess, this, hz]
    · rw [en x s hx, en y t hy]
      by_cases hxy : x = y
      · subst hxy
        have hne : s ≠ t := fun e => h (by rw [e])
        simp [Op.bytesLess, ih hne]
      · have hz : (x == y) = false := by simpa using hxy
        simp [Op.bytesLess, hz]
theorem tkey_begin (s t : List UInt8) (h : (tkey t).take (tkey s).length = tkey s) : s = t := by
  have e : tkey t = tkey s ++ (tkey t).drop (tkey s).length := by
    conv => lhs; rw [← List.take_append_drop (tkey s).length (tkey t), h]
  have h1 := takeT_tkey t []
  rw [List.append_nil] at h1
  have h2 := takeT_tkey s ((tkey t).drop (tkey s).length)
  rw [← e, h1] at h2
  simp only [Prod.mk.injEq] at h2
  exact h2.1.symm
end Go.Proofs.YtgcjhapomljekaaDoor

open Go Go.Ev

set_option linter.unusedSimpArgs false

set_option linter.unusedVariables false

set_option maxHeartbeats 4000000

namespace Go.Proofs.YtgcjhapomljekaaDoor
theorem rnum_loop (rec : Rec) (n : Nat) (l : List UInt8) (hl : 8 ≤ l.length) : ∀ (m i : Nat) (x : Int), 8 < m + i → i ≤ 8 →
    f56_vestryref01_TakeNum.l0 rec n m (bb l) x (i : Int) = some ([vI (takeF x ((l.take 8).drop i)), vI 8, vI 0], [])
  | 0, i, x, h1, h2 => by omega
  | m + 1, i, x, h1, h2 => by
    show f56_vestryref01_TakeNum.l0.step rec n (f56_vestryref01_TakeNum.l0 rec n m) (bb l) _ _ = _
    unfold f56_vestryref01_TakeNum.l0.step
    by_cases hi : i < 8
    · have c1 : ((i : Int) < 8) := by omega
      have c2 : (0 : Int) ≤ (i : Int) := by omega
      have c3 : ((i : Int) < (l.length : Int)) := by omega
      have hi' : i < l.length := by omega
      have w := wrap_nat i (by omega)
      have ih := rnum_loop rec n l hl m (i + 1) (stepT x l[i]) (by omega) (by omega)
      have hd : (l.take 8).drop i = l[i] :: (l.take 8).drop (i + 1) := by
        rw [List.drop_eq_getElem_cons (by rw [List.length_take]; omega)]
        congr 1
        rw [List.getElem_take]
      unfold stepT at ih
      simp only [c1, c2, c3, decide_true, needB_true, bb_length, Int.toNat_natCast, nth_bb hi', hasT5, toI_byte, w, ih, ifB_eq, if_true, hd, takeF, stepT]
    · have c1 : ¬ ((i : Int) < 8) := by omega
      have hd : (l.take 8).drop i = [] := List.drop_eq_nil_of_le (by rw [List.length_take]; omega)
      simp only [c1, decide_false, ifB_eq, Bool.false_eq_true, if_false, hd, takeF]
theorem s25 (n : Nat) (l : List UInt8) : pcall C (n + 11) 56 [vR l] = some ([vI (takeNumN l).1, vI (takeNumN l).2.1, vI (takeNumN l).2.2], []) := by
  rw [pcall_step (by rfl) (by rfl), f56_vestryref01_TakeNum_eq]
  unfold f56_vestryref01_TakeNum f56_vestryref01_TakeNum.pre takeNumN
  by_cases hl : l.length < 8
  · have c : ((l.length : Int) < 8) := by omega
    simp only [bb_length, c, decide_true, ifB_eq, if_true, hl]
  · have c : ¬ ((l.length : Int) < 8) := by omega
    have := rnum_loop (pcall C (n + 10)) (n + 10) l (by omega) (n + 10) 0 0 (by omega) (by omega)
    simp only [bb_length, c, decide_false, ifB_eq, Bool.false_eq_true, if_false, hl]
    rw [List.drop_zero, takeF_zero] at this
    exact this
theorem s26 (n : Nat) (l : List UInt8) : pcall C (n + 12) 44 [vR l] = some ([vI (takeKeyN l).1, vI (takeKeyN l).2.1, vI (takeKeyN l).2.2], []) := by
  rw [pcall_step (by rfl) (by rfl), f44_vestryref01_TakeNumKey_eq]
  unfold f44_vestryref01_TakeNumKey takeKeyN
  by_cases hl : l.length < 8
  · have c : ((l.length : Int) < 8) := by omega
    simp only [bb_length, c, decide_true, ifB_eq, if_true, hl]
  · have c : ¬ ((l.length : Int) < 8) := by omega
    have c8 : ((8 : Int) ≤ (l.length : Int)) := by omega
    have ht : (l.take 8).length = 8 := by rw [List.length_take]; omega
    obtain ⟨b, r, hb⟩ : ∃ b r, l.take 8 = b :: r := by
      match l.take 8, ht with
      | b :: r, _ => exact ⟨b, r, rfl⟩
    have hr : r.length = 7 := by rw [hb] at ht; simpa using ht
    have h := s25 n ((b ^^^ 128) :: r)
    unfold takeNumN at h
    have t8 : ((b ^^^ 128) :: r).take 8 = (b ^^^ 128) :: r := List.take_of_length_le (by simp; omega)
    rw [if_neg (by simp; omega), t8] at h
    have n0 : nthP (bb (b :: r)) 0 = pvByte b := rfl
    have ti : PV.toI (pvByte b) = ((b.toNat : Nat) : Int) := rfl
    have l0 : Nat.blt 0 (b :: r).length = true := by rw [Nat.blt_eq]; simp
    have c0 : (0 : Int) < (((b :: r).length : Nat) : Int) := by simp only [List.length_cons]; omega
    have st : List.set (bb (b :: r)) 0 (pvByte (b ^^^ 128)) = bb ((b ^^^ 128) :: r) := rfl
    have b1 : Nat.ble ((0 + (b :: r).length) * 1) 140737488355328 = true := by rw [Nat.ble_eq, List.length_cons]; omega
    have b2 : Nat.ble (0 + (b :: r).length) 9223372036854775807 = true := by rw [Nat.ble_eq, List.length_cons]; omega
    have e : w64 (valN 0 ((b ^^^ 128) :: r) : Int) = w64 ((valN 0 (b :: r) : Int) + 9223372036854775808) := by
      have hbl := b.toNat_lt
      have v1 : valN 0 ((b ^^^ 128) :: r) = (b ^^^ 128).toNat * 72057594037927936 + valN 0 r := by
        simp only [valN]; rw [valN_add r, hr]; simp
      have v2 : valN 0 (b :: r) = b.toNat * 72057594037927936 + valN 0 r := by
        simp only [valN]; rw [valN_add r, hr]; simp
      rw [v1, v2, xor128]
      simp only [w64, IntKind.wrap_i64]
      omega
    simp only [bb_length, c, c8, decide_false, decide_true, needB_true, ifB_eq, Bool.false_eq_true, if_false, hl, bb_take, hb, List.length_nil, b1, b2, List.nil_append, c0, l0, n0, hasT5, ti, xor_byte, st, h, callB_some, ok3325, List.headD_cons, List.tail_cons, fvF, pvF, toI_int]
    rw [e]

theorem rNum_loop (rec : Rec) (n : Nat) : ∀ (s : Nat) (v : Int) (t : List UInt8) (m : Nat), s ≤ 8 → s < m →
    f55_vestryref01_Num.l0 rec n m v (bb (List.replicate s 0 ++ t)) ((s : Int) - 1) = some ([vO (be s v ++ t)], [])
  | s, v, t, 0, h1, h2 => by omega
  | 0, v, t, m + 1, h1, h2 => by
    show f55_vestryref01_Num.l0.step rec n (f55_vestryref01_Num.l0 rec n m) _ _ _ = _
    unfold f55_vestryref01_Num.l0.step
    have c : ¬ (((0 : Nat) : Int) - 1 ≥ 0) := by omega
    simp only [c, decide_false, ifB_eq, Bool.false_eq_true, if_false, be, List.nil_append, List.replicate_zero]
  | s + 1, v, t, m + 1, h1, h2 => by
    show f55_vestryref01_Num.l0.step rec n (f55_vestryref01_Num.l0 rec n m) _ _ _ = _
    unfold f55_vestryref01_Num.l0.step
    have e : ((s + 1 : Nat) : Int) - 1 = (s : Int) := by omega
    rw [e]
    have c : ((s : Int) ≥ 0) := by omega
    have c' : ((0 : Int) ≤ (s : Int)) := by omega
    have ln : (List.replicate (s + 1) (0 : UInt8) ++ t).length = s + 1 + t.length := by simp
    have c2 : ((s : Int) < ((s + 1 + t.length : Nat) : Int)) := by omega
    have c3 : Nat.blt s (s + 1 + t.length) = true := by rw [Nat.blt_eq]; omega
    have w : IntKind.wrap .i64 ((s : Int) - 1) = (s : Int) - 1 := by rw [IntKind.wrap_i64]; omega
    have ed : Int.fdiv v ((2 : Int) ^ (min 8 (IntKind.bits .i64))) = v / 256 := by
      rw [show (2 : Int) ^ (min 8 (IntKind.bits .i64)) = 256 by decide, Int.fdiv_eq_ediv_of_nonneg _ (by decide)]
    have ih := rNum_loop rec n s (v / 256) (byteOf v :: t) m (by omega) (by omega)
    simp only [c, c', decide_true, needB_true, bb_length, ln, c2, c3, Int.toNat_natCast, ed, pvByte_of, bb_set, rep_set, w, ih, ifB_eq, if_true, be_last, List.append_assoc, List.cons_append, List.nil_append]
theorem s27 (n : Nat) (x : Int) : pcall C (n + 12) 55 [vI x] = some ([vO (be 8 x)], []) := by
  rw [pcall_step (by rfl) (by rfl), f55_vestryref01_Num_eq]
  unfold f55_vestryref01_Num f55_vestryref01_Num.pre
  have h := rNum_loop (pcall C (n + 11)) (n + 11) 8 x [] (n + 11) (by omega) (by omega)
  rw [List.append_nil, List.append_nil] at h
  have b : Nat.ble (1 * 8) 140737488355328 = true := by decide
  simp only [b, needB_true]
  exact h
theorem s28 (n : Nat) (x : Int) : pcall C (n + 13) 42 [vI x] = some ([vO (keyOf x)], []) := by
  rw [pcall_step (by rfl) (by rfl), f42_vestryref01_NumKey_eq]
  unfold f42_vestryref01_NumKey
  have h := s27 n x
  have hk : ∃ b r, be 8 x = b :: r := ⟨_, _, rfl⟩
  obtain ⟨b, r, hb⟩ := hk
  have hkey : keyOf x = (b ^^^ 128) :: r := by unfold keyOf; rw [hb]
  have n0 : nthP (bb (b :: r)) 0 = pvByte b := rfl
  have ti : PV.toI (pvByte b) = ((b.toNat : Nat) : Int) := rfl
  have l0 : Nat.blt 0 (bb (b :: r)).length = true := by rw [Nat.blt_eq, bb_length]; simp
  have c0 : (0 : Int) < (((bb (b :: r)).length : Nat) : Int) := by rw [bb_length]; simp only [List.length_cons]; omega
  have st : List.set (bb (b :: r)) 0 (pvByte (b ^^^ 128)) = bb ((b ^^^ 128) :: r) := rfl
  rw [hb] at h
  simp only [h, callB_some, ok22, needB_true, List.headD_cons, fvF, xsO, n0, hasT5, ti, l0, c0, decide_true, xor_byte, st, hkey]

/-! the laws' helpers -/
end Go.Proofs.YtgcjhapomljekaaDoor

