/- What the functions answer, and the laws. -/
import Derived.Test.YthkmnomnfmjffaaSh

set_option linter.unusedVariables false

set_option linter.unusedSimpArgs false

set_option linter.unusedSectionVars false

open Go Go.Ev

set_option linter.unusedSimpArgs false

set_option linter.unusedVariables false

namespace Go.Proofs.Ythkmnomnfmjffaa

abbrev vI (n : Int) : OV := .flat (.val (.int .i64 n))
abbrev vB (b : Bool) : OV := .flat (.val (.bool b))
abbrev bb (l : List UInt8) : List PV := l.map pvByte
abbrev vO (l : List UInt8) : OV := .flat (.own none (bb l) [])
abbrev vR (l : List UInt8) : OV := .flat (.val (.sl none (bb l)))

theorem needB_true {α : Type} (x : Option α) : needB true x = x := by
  have h : ∀ b : Bool, b = true → needB b x = x := by
    intro b hb
    subst hb
    rfl
  exact h true rfl
theorem ifB_eq {α : Type} (b : Bool) (x y : Option α) : ifB b x y = if b = true then x else y := by cases b <;> rfl
theorem callB_some {α β : Type} (a : α) (k : α → Option β) : callB (some a) k = k a := by
  have h : ∀ r : Option α, r = some a → callB r k = k a := by
    intro r hr
    subst hr
    rfl
  exact h _ rfl
theorem frzM_nil (r : Option (List OV × List OV)) : frzM [] r = r := by
  cases r with
  | none => rfl
  | some r => cases r with | mk a b => simp [frzM, frzR]
theorem pcall_step {n : Nat} {f : FuncId} {args : List OV} (h : C.prim f = none) (hf : C.frz f = []) : pcall C (n + 1) f args = callBody C (pcall C n) n f args := by
  show (match C.prim f with
    | some p => p args
    | none => frzM (C.frz f) (callBody C (pcall C n) n f args)) = _
  rw [h, hf]
  exact frzM_nil _
theorem pcall_prim {n : Nat} {f : FuncId} {args : List OV} {p : List OV → Option (List OV × List OV)} (h : C.prim f = some p) : pcall C (n + 1) f args = p args := by
  show (match C.prim f with
    | some p => p args
    | none => frzM (C.frz f) (callBody C (pcall C n) n f args)) = _
  rw [h]
theorem fvF (f : FV) : OV.fv (.flat f) = f := rfl
theorem pvF (v : PV) : FV.pv (.val v) = v := rfl
theorem xsO (sh : Option Nat) (l sp : List PV) : FV.xs (.own sh l sp) = l := rfl
theorem toI_int (k : IntKind) (n : Int) : PV.toI (.int k n) = n := rfl
theorem toB_bool (b : Bool) : PV.toB (.bool b) = b := rfl
theorem toL_sl (sh : Option Nat) (b : List PV) : PV.toL (.sl sh b) = b := rfl
theorem hasT5 (b : UInt8) : hasT Go.Proofs.Try.prog 5 (pvByte b) = true := by kernel_rfl
theorem all5 (l : List UInt8) : (bb l).all (hasT Go.Proofs.Try.prog 5) = true := by
  simp [List.all_eq_true, hasT5]
theorem row22 (l : List UInt8) : okRow Go.Proofs.Try.prog 22 (bb l) [] = true := by
  have h1 : tElem Go.Proofs.Try.prog 22 = some 5 := by kernel_rfl
  unfold okRow
  rw [h1]
  dsimp only
  split
  · rw [all5]; rfl
  · rfl
theorem okO22 (l : List UInt8) : okO Go.Proofs.Try.prog 22 .o (vO l) = true := by
  have h1 : elemShape Go.Proofs.Try.prog 22 = none := by kernel_rfl
  show (shEq (elemShape Go.Proofs.Try.prog 22) none && okRow Go.Proofs.Try.prog 22 (bb l) []) = true
  rw [h1, row22]; rfl
theorem okI3 (n : Int) : okO Go.Proofs.Try.prog 3 .v (vI n) = true := by kernel_rfl
theorem okI25 (n : Int) : okO Go.Proofs.Try.prog 25 .v (vI n) = true := by kernel_rfl
theorem ok22 (l : List UInt8) : okOs Go.Proofs.Try.prog [22] [.o] [vO l] = true := by
  show (okO Go.Proofs.Try.prog 22 .o (vO l) && true) = true
  rw [okO22]; rfl
theorem ok2225 (l : List UInt8) (e : Int) : okOs Go.Proofs.Try.prog [22, 25] [.o, .v] [vO l, vI e] = true := by
  show (okO Go.Proofs.Try.prog 22 .o (vO l) && (okO Go.Proofs.Try.prog 25 .v (vI e) && true)) = true
  rw [okO22, okI25]; rfl
theorem ok22325 (l : List UInt8) (n e : Int) : okOs Go.Proofs.Try.prog [22, 3, 25] [.o, .v, .v] [vO l, vI n, vI e] = true := by
  show (okO Go.Proofs.Try.prog 22 .o (vO l) && (okO Go.Proofs.Try.prog 3 .v (vI n) && (okO Go.Proofs.Try.prog 25 .v (vI e) && true))) = true
  rw [okO22, okI25, okI3]; rfl
theorem ok4 (b : Bool) : okOs Go.Proofs.Try.prog [4] [] [vB b] = true := by kernel_rfl
theorem ok325 (n m : Int) : okOs Go.Proofs.Try.prog [3, 25] [] [vI n, vI m] = true := by kernel_rfl
theorem ok34 (n : Int) (b : Bool) : okOs Go.Proofs.Try.prog [3, 4] [] [vI n, vB b] = true := by kernel_rfl

/-- A number's bytes, the highest ahead. -/
def byteOf (z : Int) : UInt8 := UInt8.ofNat (z % 256).toNat
def be : Nat → Int → List UInt8
  | 0, _ => []
  | s + 1, n => byteOf (n / 256 ^ s) :: be s n
theorem be_length (s : Nat) (n : Int) : (be s n).length = s := by
  induction s with
  | zero => rfl
  | succ s ih => simp [be, ih]
theorem pvByte_of (z : Int) : PV.int .u8 (IntKind.wrap .u8 z) = pvByte (byteOf z) := by
  have h : IntKind.wrap .u8 z = ((z % 256).toNat : Int) := by
    simp [IntKind.wrap, IntKind.bits, IntKind.signed]
    omega
  rw [h]
  unfold pvByte byteOf
  congr 1
  have : (z % 256).toNat < 256 := by omega
  simp [UInt8.toNat_ofNat', Nat.mod_eq_of_lt this]
theorem shift_of (n : Int) (s : Nat) (hs : s ≤ 7) : Int.fdiv n ((2 : Int) ^ (min (Int.toNat (8 * (s : Int))) (IntKind.bits .i64))) = n / 256 ^ s := by
  have e1 : min (Int.toNat (8 * (s : Int))) (IntKind.bits .i64) = 8 * s := by
    show min (Int.toNat (8 * (s : Int))) 64 = 8 * s
    omega
  rw [e1, Int.pow_mul, Int.fdiv_eq_ediv_of_nonneg _ (Int.pow_nonneg (by decide))]
  rfl
end Go.Proofs.Ythkmnomnfmjffaa

open Go Go.Ev

set_option linter.unusedSimpArgs false

set_option linter.unusedVariables false

namespace Go.Proofs.Ythkmnomnfmjffaa

theorem bb_append (a b : List UInt8) : bb a ++ bb b = bb (a ++ b) := by simp [bb]
theorem bb_length (a : List UInt8) : (bb a).length = a.length := by simp [bb]
theorem put_loop (rec : Rec) (n : Nat) (x1 : Int) : ∀ (s : Nat) (l : List UInt8) (m : Nat), s ≤ 8 → s < m → l.length + s ≤ 1000000000 →
    f29_plain_put.l0 rec n m (bb l) x1 (8 * (s : Int) - 8) = some ([vO (l ++ be s x1)], [.flat .gone, .flat .gone, .flat .gone])
  | s, l, 0, hs, hm, hl => by omega
  | 0, l, m + 1, hs, hm, hl => by
    show f29_plain_put.l0.step rec n (f29_plain_put.l0 rec n m) (bb l) x1 _ = _
    unfold f29_plain_put.l0.step
    have c : ¬ (8 * ((0 : Nat) : Int) - 8 ≥ 0) := by omega
    simp only [c, decide_false, ifB_eq, Bool.false_eq_true, if_false, be, List.append_nil]
  | s + 1, l, m + 1, hs, hm, hl => by
    show f29_plain_put.l0.step rec n (f29_plain_put.l0 rec n m) (bb l) x1 _ = _
    unfold f29_plain_put.l0.step
    have e : 8 * ((s + 1 : Nat) : Int) - 8 = 8 * (s : Int) := by omega
    rw [e]
    have c : (8 * (s : Int) ≥ 0) := by omega
    have c' : ((0 : Int) ≤ 8 * (s : Int)) := by omega
    have w : IntKind.wrap .i64 (8 * (s : Int) - 8) = 8 * (s : Int) - 8 := by rw [IntKind.wrap_i64]; omega
    have ih := put_loop rec n x1 s (l ++ [byteOf (x1 / 256 ^ s)]) m (by omega) (by omega) (by simp; omega)
    have b1 : Nat.ble (((bb l).length + 1) * 1) 140737488355328 = true := by rw [Nat.ble_eq, bb_length]; omega
    have b2 : Nat.ble ((bb l).length + 1) 9223372036854775807 = true := by rw [Nat.ble_eq, bb_length]; omega
    have e3 : bb l ++ [pvByte (byteOf (x1 / 256 ^ s))] = bb (l ++ [byteOf (x1 / 256 ^ s)]) := by simp [bb]
    simp only [c, c', decide_true, needB_true, shift_of x1 s (by omega), pvByte_of, List.length_cons, List.length_nil, Nat.zero_add, b1, b2, w, e3, ih, ifB_eq, if_true, be, List.append_assoc, List.cons_append, List.nil_append]
theorem s29 (n : Nat) (l : List UInt8) (x : Int) (s : Nat) (hs : s ≤ 8) (hl : l.length ≤ 100000000) : pcall C (n + 11) 29 [vO l, vI x, vI (s : Int)] = some ([vO (l ++ be s x)], [.flat .gone, .flat .gone, .flat .gone]) := by
  rw [pcall_step (by rfl) (by rfl), f29_plain_put_eq]
  unfold f29_plain_put f29_plain_put.pre
  have w1 : IntKind.wrap .i64 ((s : Int) - 1) = (s : Int) - 1 := by rw [IntKind.wrap_i64]; omega
  have w2 : IntKind.wrap .i64 (8 * ((s : Int) - 1)) = 8 * (s : Int) - 8 := by rw [IntKind.wrap_i64]; omega
  rw [w1, w2]
  exact put_loop _ _ x s l (n + 10) hs (by omega) (by omega)
theorem s22 (n : Nat) (x : Int) : pcall C (n + 12) 22 [vI x] = some ([vO (be 8 x)], []) := by
  rw [pcall_step (by rfl) (by rfl), f22_plain_Num_eq]
  unfold f22_plain_Num
  have h : pcall C (n + 11) 29 [.flat (.own none [] []), vI x, vI 8] = _ := s29 n [] x 8 (by omega) (by simp)
  simp only [h, callB_some, List.nil_append, ok22, needB_true, List.headD_cons, fvF, xsO]
end Go.Proofs.Ythkmnomnfmjffaa

open Go Go.Ev

set_option linter.unusedSimpArgs false

set_option linter.unusedVariables false

namespace Go.Proofs.Ythkmnomnfmjffaa

theorem xor_byte (b : UInt8) : PV.int .u8 (IntKind.wrap .u8 (((BitVec.toNat ((BitVec.ofInt (IntKind.bits .u8) ((b.toNat : Nat) : Int)) ^^^ (BitVec.ofInt (IntKind.bits .u8) (128 : Int))) : Nat) : Int))) = pvByte (b ^^^ 128) := by
  have h1 : BitVec.ofInt (IntKind.bits .u8) ((b.toNat : Nat) : Int) = b.toBitVec := by
    apply BitVec.eq_of_toNat_eq
    show (BitVec.ofInt 8 ((b.toNat : Nat) : Int)).toNat = b.toNat
    rw [BitVec.toNat_ofInt]
    have := b.toNat_lt
    omega
  have h2 : BitVec.ofInt (IntKind.bits .u8) (128 : Int) = (128 : UInt8).toBitVec := rfl
  rw [h1, h2]
  have h3 : (b.toBitVec ^^^ (128 : UInt8).toBitVec).toNat = (b ^^^ 128).toNat := rfl
  have h4 := (b ^^^ 128).toNat_lt
  unfold pvByte
  congr 1
  show IntKind.wrap .u8 ((b.toBitVec ^^^ (128 : UInt8).toBitVec).toNat : Int) = _
  rw [h3]
  generalize (b ^^^ 128).toNat = k at h4 ⊢
  simp [IntKind.wrap, IntKind.bits, IntKind.signed]
  omega
def keyOf (x : Int) : List UInt8 := match be 8 x with
  | b :: r => (b ^^^ 128) :: r
  | [] => []
theorem s21 (n : Nat) (x : Int) : pcall C (n + 13) 21 [vI x] = some ([vO (keyOf x)], []) := by
  rw [pcall_step (by rfl) (by rfl), f21_plain_NumKey_eq]
  unfold f21_plain_NumKey
  have h := s22 n x
  have hk : ∃ b r, be 8 x = b :: r := ⟨_, _, rfl⟩
  obtain ⟨b, r, hb⟩ := hk
  have hkey : keyOf x = (b ^^^ 128) :: r := by unfold keyOf; rw [hb]
  have n0 : nthP (bb (b :: r)) 0 = pvByte b := rfl
  have ti : PV.toI (pvByte b) = ((b.toNat : Nat) : Int) := rfl
  have l0 : Nat.blt 0 (bb (b :: r)).length = true := by rw [Nat.blt_eq, bb_length]; simp
  have c0 : (0 : Int) < (((bb (b :: r)).length : Nat) : Int) := by rw [bb_length]; simp only [List.length_cons]; omega
  have st : List.set (bb (b :: r)) 0 (pvByte (b ^^^ 128)) = bb ((b ^^^ 128) :: r) := rfl
  rw [hb] at h
  simp only [h, callB_some, ok22, needB_true, List.headD_cons, fvF, xsO, n0, hasT5, ti, l0, c0, decide_true, xor_byte, st, hkey]
end Go.Proofs.Ythkmnomnfmjffaa

open Go Go.Ev

set_option linter.unusedSimpArgs false

set_option linter.unusedVariables false

namespace Go.Proofs.Ythkmnomnfmjffaa

def stepT (x : Int) (b : UInt8) : Int := IntKind.wrap .i64 (((BitVec.toNat ((BitVec.ofInt (IntKind.bits .i64) (IntKind.wrap .i64 (x * (2 : Int) ^ (min 8 (IntKind.bits .i64))))) ||| (BitVec.ofInt (IntKind.bits .i64) (IntKind.wrap .i64 ((b.toNat : Nat) : Int)))) : Nat) : Int))
def takeF : Int → List UInt8 → Int
  | x, [] => x
  | x, b :: r => takeF (stepT x b) r
theorem nth_bb {l : List UInt8} {i : Nat} (h : i < l.length) : nthP (bb l) i = pvByte l[i] := by
  simp [nthP, List.getD, List.getElem?_eq_getElem, h]
theorem toI_byte (b : UInt8) : PV.toI (pvByte b) = ((b.toNat : Nat) : Int) := rfl
theorem wrap_nat (i : Nat) (h : i < 9223372036854775807) : IntKind.wrap .i64 ((i : Int) + 1) = ((i + 1 : Nat) : Int) := by
  rw [IntKind.wrap_i64]; omega
theorem take_loop (rec : Rec) (n : Nat) (l : List UInt8) (hl : l.length ≤ 100) : ∀ (m i : Nat) (x : Int), l.length < m + i → i ≤ l.length →
    f34_plain_take.l0 rec n m x (bb l) (l.length : Int) (i : Int) = some ([vI (takeF x (l.drop i)), vB true], [])
  | 0, i, x, h1, h2 => by omega
  | m + 1, i, x, h1, h2 => by
    show f34_plain_take.l0.step rec n (f34_plain_take.l0 rec n m) x (bb l) _ _ = _
    unfold f34_plain_take.l0.step
    by_cases hi : i < l.length
    · have c1 : ((i : Int) < (l.length : Int)) := by omega
      have c2 : (0 : Int) ≤ (i : Int) := by omega
      have w := wrap_nat i (by omega)
      have ih := take_loop rec n l hl m (i + 1) (stepT x l[i]) (by omega) (by omega)
      have hd : l.drop i = l[i] :: l.drop (i + 1) := List.drop_eq_getElem_cons hi
      unfold stepT at ih
      simp only [c1, c2, decide_true, needB_true, bb_length, Int.toNat_natCast, nth_bb hi, hasT5, toI_byte, w, ih, ifB_eq, if_true, hd, takeF, stepT]
    · have c1 : ¬ ((i : Int) < (l.length : Int)) := by omega
      have hd : l.drop i = [] := List.drop_eq_nil_of_le (by omega)
      simp only [c1, decide_false, ifB_eq, Bool.false_eq_true, if_false, hd, takeF]
theorem bb_take (l : List UInt8) (k : Nat) : List.take k (bb l) = bb (l.take k) := by simp [bb]
theorem bb_drop (l : List UInt8) (k : Nat) : List.drop k (bb l) = bb (l.drop k) := by simp [bb]
theorem s34 (n : Nat) (l : List UInt8) (s : Nat) (hs : s ≤ 8) : pcall C (n + 11) 34 [vR l, vI (s : Int)] = some (if l.length < s then [vI 0, vB false] else [vI (takeF 0 (l.take s)), vB true], []) := by
  rw [pcall_step (by rfl) (by rfl), f34_plain_take_eq]
  unfold f34_plain_take f34_plain_take.pre
  by_cases h : l.length < s
  · have c : ((((bb l).length : Nat) : Int) < (s : Int)) := by rw [bb_length]; omega
    simp only [c, decide_true, ifB_eq, if_true, h]
  · have c : ¬ ((((bb l).length : Nat) : Int) < (s : Int)) := by rw [bb_length]; omega
    have c1 : (0 : Int) ≤ (s : Int) := by omega
    have c2 : ((s : Int) ≤ (((bb l).length : Nat) : Int)) := by rw [bb_length]; omega
    have hlen : (l.take s).length = s := by rw [List.length_take]; omega
    have := take_loop (pcall C (n + 10)) (n + 10) (l.take s) (by omega) (n + 10) 0 0 (by omega) (by omega)
    rw [bb_length] at c c2
    simp only [bb_length, c, c1, c2, decide_true, decide_false, needB_true, ifB_eq, Bool.false_eq_true, if_false, h, Int.toNat_natCast, bb_take]
    exact this
def countN (l : List UInt8) (most : Int) : Int × Int := if l.length < 4 then (0, 3) else if takeF 0 (l.take 4) > most then (0, 2) else (takeF 0 (l.take 4), 0)
theorem s30 (n : Nat) (l : List UInt8) (most : Int) : pcall C (n + 12) 30 [vR l, vI most] = some ([vI (countN l most).1, vI (countN l most).2], []) := by
  rw [pcall_step (by rfl) (by rfl), f30_plain_count_eq]
  unfold f30_plain_count countN
  have h : pcall C (n + 11) 34 [vR l, vI 4] = _ := s34 n l 4 (by omega)
  by_cases hl : l.length < 4
  · rw [if_pos hl] at h
    simp only [h, callB_some, ok34, needB_true, List.headD_cons, List.tail_cons, fvF, pvF, toI_int, toB_bool, Bool.not_false, ifB_eq, if_true, hl]
  · rw [if_neg hl] at h
    simp only [h, callB_some, ok34, needB_true, List.headD_cons, List.tail_cons, fvF, pvF, toI_int, toB_bool, Bool.not_true, ifB_eq, Bool.false_eq_true, if_false, hl]
    by_cases h2 : takeF 0 (l.take 4) > most <;> simp [h2]
end Go.Proofs.Ythkmnomnfmjffaa

open Go Go.Ev

set_option linter.unusedSimpArgs false

set_option linter.unusedVariables false

namespace Go.Proofs.Ythkmnomnfmjffaa

theorem stepT_small (x : Nat) (b : UInt8) (hx : x < 36028797018963968) : stepT (x : Int) b = ((x * 256 + b.toNat : Nat) : Int) := by
  have hb := b.toNat_lt
  unfold stepT
  have e1 : (2 : Int) ^ (min 8 (IntKind.bits .i64)) = 256 := by decide
  have e2 : IntKind.wrap .i64 ((x : Int) * 256) = ((x * 256 : Nat) : Int) := by rw [IntKind.wrap_i64]; omega
  have e3 : IntKind.wrap .i64 ((b.toNat : Nat) : Int) = ((b.toNat : Nat) : Int) := by rw [IntKind.wrap_i64]; omega
  rw [e1, e2, e3]
  have h1 : (BitVec.ofInt (IntKind.bits .i64) ((x * 256 : Nat) : Int)).toNat = x * 256 := by
    show (BitVec.ofInt 64 ((x * 256 : Nat) : Int)).toNat = _
    rw [BitVec.toNat_ofInt]; omega
  have h2 : (BitVec.ofInt (IntKind.bits .i64) ((b.toNat : Nat) : Int)).toNat = b.toNat := by
    show (BitVec.ofInt 64 ((b.toNat : Nat) : Int)).toNat = _
    rw [BitVec.toNat_ofInt]; omega
  rw [BitVec.toNat_or, h1, h2]
  have h3 : x * 256 ||| b.toNat = x * 256 + b.toNat := by
    have := Nat.shiftLeft_add_eq_or_of_lt (b := b.toNat) (i := 8) (by omega) x
    rw [Nat.shiftLeft_eq] at this
    exact this.symm
  rw [h3, IntKind.wrap_i64]
  omega
def valN : Nat → List UInt8 → Nat
  | x, [] => x
  | x, b :: r => valN (x * 256 + b.toNat) r
theorem valN_lt : ∀ (l : List UInt8) (x : Nat), valN x l < (x + 1) * 256 ^ l.length
  | [], x => by simp [valN]
  | b :: r, x => by
    have hb := b.toNat_lt
    have := valN_lt r (x * 256 + b.toNat)
    have h2 : (x * 256 + b.toNat + 1) * 256 ^ r.length ≤ ((x + 1) * 256) * 256 ^ r.length := Nat.mul_le_mul_right _ (by omega)
    simp only [valN, List.length_cons, Nat.pow_succ]
    rw [Nat.mul_comm (256 ^ r.length) 256, ← Nat.mul_assoc]
    omega
theorem takeF_small : ∀ (l : List UInt8) (x : Nat), x < 256 ^ (7 - l.length) → l.length ≤ 7 → takeF (x : Int) l = (valN x l : Int)
  | [], x, h, hl => rfl
  | b :: r, x, h, hl => by
    simp only [List.length_cons] at h hl
    have hb := b.toNat_lt
    have h7 : 256 ^ (7 - (r.length + 1)) ≤ 256 ^ 6 := Nat.pow_le_pow_right (by decide) (by omega)
    have h8 : x < 281474976710656 := Nat.lt_of_lt_of_le h h7
    simp only [takeF, valN]
    rw [stepT_small x b (by omega)]
    refine takeF_small r _ ?_ (by omega)
    have e : 7 - r.length = (7 - (r.length + 1)) + 1 := by omega
    rw [e, Nat.pow_succ]
    omega
theorem take4 (l : List UInt8) (h : 4 ≤ l.length) : takeF 0 (l.take 4) = (valN 0 (l.take 4) : Int) ∧ valN 0 (l.take 4) < 4294967296 := by
  have hl : (l.take 4).length = 4 := by rw [List.length_take]; omega
  refine ⟨takeF_small (l.take 4) 0 (by rw [hl]; decide) (by omega), ?_⟩
  have := valN_lt (l.take 4) 0
  rw [hl] at this
  simpa using this
def blobN (l : List UInt8) : List UInt8 × Int := if l.length > 65536 then ([], 2) else (be 4 (l.length : Int) ++ l, 0)
theorem s10 (n : Nat) (l : List UInt8) : pcall C (n + 12) 10 [vR l] = some ([vO (blobN l).1, vI (blobN l).2], []) := by
  rw [pcall_step (by rfl) (by rfl), f10_plain_Blob_eq]
  unfold f10_plain_Blob blobN
  have h : pcall C (n + 11) 29 [.flat (.own none [] []), vI (l.length : Int), vI 4] = _ := s29 n [] (l.length : Int) 4 (by omega) (by simp)
  by_cases hl : l.length > 65536
  · have c : (((l.length : Nat) : Int) > 65536) := by omega
    simp only [bb_length, c, decide_true, ifB_eq, if_true, hl]
    rfl
  · have c : ¬ (((l.length : Nat) : Int) > 65536) := by omega
    have b1 : Nat.ble ((4 + l.length) * 1) 140737488355328 = true := by rw [Nat.ble_eq]; omega
    have b2 : Nat.ble (4 + l.length) 9223372036854775807 = true := by rw [Nat.ble_eq]; omega
    simp only [bb_length, c, decide_false, ifB_eq, Bool.false_eq_true, if_false, hl, h, List.nil_append, callB_some, ok22, needB_true, List.headD_cons, fvF, xsO, be_length, b1, b2, bb_append]
end Go.Proofs.Ythkmnomnfmjffaa

open Go Go.Ev

set_option linter.unusedSimpArgs false

set_option linter.unusedVariables false

set_option maxHeartbeats 1000000

namespace Go.Proofs.Ythkmnomnfmjffaa

theorem isByte_bb (l : List UInt8) : (bb l).all isByte = true := by
  simp only [List.all_eq_true, List.mem_map]
  rintro x ⟨b, _, rfl⟩
  have := b.toNat_lt
  simp [pvByte, isByte]
  omega
theorem s31 (n : Nat) (l : List UInt8) (hl : l.length ≤ 140737488355328) : pcall C (n + 1) 31 [vR l] = some ([vO l], []) := by
  rw [pcall_prim (p := primClone) (by rfl)]
  have hb : Nat.ble (bb l).length 140737488355328 = true := by rw [Nat.ble_eq, bb_length]; exact hl
  have h : ((bb l).all isByte && Nat.ble (bb l).length 140737488355328) = true := by rw [isByte_bb, hb]; rfl
  unfold primClone
  dsimp only
  rw [h]
def takeBlobN (l : List UInt8) : List UInt8 × Int × Int :=
  if l.length < 4 then ([], 0, 3) else if valN 0 (l.take 4) > 65536 then ([], 0, 2) else if l.length < 4 + valN 0 (l.take 4) then ([], 0, 3)
  else ((l.drop 4).take (valN 0 (l.take 4)), ((4 + valN 0 (l.take 4) : Nat) : Int), 0)
theorem s11 (n : Nat) (l : List UInt8) (hl : l.length ≤ 9223372036854775807) : pcall C (n + 13) 11 [vR l] = some ([vO (takeBlobN l).1, vI (takeBlobN l).2.1, vI (takeBlobN l).2.2], []) := by
  rw [pcall_step (by rfl) (by rfl), f11_plain_TakeBlob_eq]
  unfold f11_plain_TakeBlob takeBlobN
  have h := s30 n l 65536
  unfold countN at h
  by_cases h4 : l.length < 4
  · rw [if_pos h4] at h
    simp only [h, callB_some, ok325, needB_true, List.headD_cons, List.tail_cons, fvF, pvF, toI_int, h4, if_true, ifB_eq, show ((3 : Int) != 0) = true from rfl]
    rfl
  · rw [if_neg h4] at h
    obtain ⟨t1, t2⟩ := take4 l (by omega)
    rw [t1] at h
    by_cases hb : valN 0 (l.take 4) > 65536
    · rw [if_pos (by omega)] at h
      simp only [h, callB_some, ok325, needB_true, List.headD_cons, List.tail_cons, fvF, pvF, toI_int, h4, hb, if_true, if_false, ifB_eq, show ((2 : Int) != 0) = true from rfl]
      rfl
    · rw [if_neg (by omega)] at h
      have w1 : IntKind.wrap .i64 ((l.length : Int) - 4) = (l.length : Int) - 4 := by rw [IntKind.wrap_i64]; omega
      have w2 : IntKind.wrap .i64 (4 + (valN 0 (l.take 4) : Int)) = ((4 + valN 0 (l.take 4) : Nat) : Int) := by rw [IntKind.wrap_i64]; omega
      simp only [h, callB_some, ok325, needB_true, List.headD_cons, List.tail_cons, fvF, pvF, toI_int, h4, hb, if_false, ifB_eq, show ((0 : Int) != 0) = false from rfl, Bool.false_eq_true, bb_length, w1, w2]
      by_cases hc : l.length < 4 + valN 0 (l.take 4)
      · have c : ((l.length : Int) - 4 < (valN 0 (l.take 4) : Int)) := by omega
        simp only [c, decide_true, if_true, hc]
        rfl
      · have c : ¬ ((l.length : Int) - 4 < (valN 0 (l.take 4) : Int)) := by omega
        have c1 : (4 : Int) ≤ ((4 + valN 0 (l.take 4) : Nat) : Int) := by omega
        have c2 : ((4 + valN 0 (l.take 4) : Nat) : Int) ≤ (l.length : Int) := by omega
        have e : List.drop 4 (List.take (4 + valN 0 (l.take 4)) l) = List.take (valN 0 (l.take 4)) (l.drop 4) := by
          rw [List.drop_take]
          congr 1
          omega
        have h31 := s31 (n + 11) (List.take (valN 0 (l.take 4)) (l.drop 4)) (by rw [List.length_take]; omega)
        simp only [c, c1, c2, decide_true, decide_false, Bool.false_eq_true, if_false, hc, needB_true, Int.toNat_natCast, bb_take, bb_drop, e, h31, callB_some, ok22, List.headD_cons, fvF, xsO]
end Go.Proofs.Ythkmnomnfmjffaa

open Go Go.Ev

set_option linter.unusedSimpArgs false

set_option linter.unusedVariables false

set_option maxHeartbeats 1000000

namespace Go.Proofs.Ythkmnomnfmjffaa

abbrev bbs (l : List (List UInt8)) : List PV := l.map fun p => PV.sl none (bb p)
theorem bbs_length (l : List (List UInt8)) : (bbs l).length = l.length := by simp [bbs]
theorem hasT22 (p : List UInt8) : hasT Go.Proofs.Try.prog 22 (.sl none (bb p)) = true := by kernel_rfl
theorem nth_bbs {l : List (List UInt8)} {i : Nat} (h : i < l.length) : nthP (bbs l) i = .sl none (bb l[i]) := by
  simp [nthP, List.getD, List.getElem?_eq_getElem, h]
def rowGo : List UInt8 → List (List UInt8) → List UInt8 × Int
  | out, [] => (out, 0)
  | out, p :: r => if (blobN p).2 = 0 then rowGo (out ++ (blobN p).1) r else ([], (blobN p).2)
def rowN (l : List (List UInt8)) : List UInt8 × Int := if l.length > 4096 then ([], 2) else rowGo (be 4 (l.length : Int)) l
theorem blob_len (p : List UInt8) : (blobN p).1.length ≤ 65540 := by
  unfold blobN
  split
  · simp
  · simp [be_length]; omega
theorem row_loop (rec : Rec) (n : Nat) (l : List (List UInt8)) (hl : l.length ≤ 4096) (hrec : ∀ p : List UInt8, rec 10 [vR p] = some ([vO (blobN p).1, vI (blobN p).2], [])) : ∀ (m i : Nat) (out : List UInt8), l.length < m + i → i ≤ l.length → out.length ≤ 4 + 65540 * i →
    f16_plain_Row.l0 rec n m (bb out) (bbs l) (l.length : Int) (i : Int) = some ([vO (rowGo out (l.drop i)).1, vI (rowGo out (l.drop i)).2], [])
  | 0, i, out, h1, h2, h3 => by omega
  | m + 1, i, out, h1, h2, h3 => by
    show f16_plain_Row.l0.step rec n (f16_plain_Row.l0 rec n m) (bb out) (bbs l) _ _ = _
    unfold f16_plain_Row.l0.step
    by_cases hi : i < l.length
    · have c1 : ((i : Int) < (l.length : Int)) := by omega
      have c2 : (0 : Int) ≤ (i : Int) := by omega
      have w := wrap_nat i (by omega)
      have hbl := blob_len l[i]
      have ih := row_loop rec n l hl hrec m (i + 1) (out ++ (blobN l[i]).1) (by omega) (by omega) (by simp; omega)
      have hd : l.drop i = l[i] :: l.drop (i + 1) := List.drop_eq_getElem_cons hi
      have b1 : Nat.ble ((out.length + (blobN l[i]).1.length) * 1) 140737488355328 = true := by rw [Nat.ble_eq]; omega
      have b2 : Nat.ble (out.length + (blobN l[i]).1.length) 9223372036854775807 = true := by rw [Nat.ble_eq]; omega
      simp only [c1, c2, decide_true, needB_true, bbs_length, bb_length, Int.toNat_natCast, nth_bbs hi, hasT22, toL_sl, hrec, callB_some, ok2225, List.headD_cons, List.tail_cons, fvF, pvF, toI_int, xsO, b1, b2, bb_append, w, ih, ifB_eq, if_true, hd, rowGo]
      by_cases h0 : (blobN l[i]).2 = 0
      · simp only [h0, bne_self_eq_false, Bool.false_eq_true, if_false, if_true]
      · have : ((blobN l[i]).2 != 0) = true := by simpa using h0
        simp only [this, h0, if_true, if_false]
        rfl
    · have c1 : ¬ ((i : Int) < (l.length : Int)) := by omega
      have hd : l.drop i = [] := List.drop_eq_nil_of_le (by omega)
      simp only [c1, decide_false, ifB_eq, Bool.false_eq_true, if_false, hd, rowGo]
theorem s16 (n : Nat) (l : List (List UInt8)) : pcall C (n + 4200) 16 [.flat (.val (.sl none (bbs l)))] = some ([vO (rowN l).1, vI (rowN l).2], []) := by
  rw [pcall_step (by rfl) (by rfl), f16_plain_Row_eq]
  unfold f16_plain_Row f16_plain_Row.pre rowN
  have h : pcall C (n + 4199) 29 [.flat (.own none [] []), vI (l.length : Int), vI 4] = _ := s29 (n + 4188) [] (l.length : Int) 4 (by omega) (by simp)
  by_cases hl : l.length > 4096
  · have c : ((l.length : Int) > 4096) := by omega
    simp only [bbs_length, c, decide_true, ifB_eq, if_true, hl]
    rfl
  · have c : ¬ ((l.length : Int) > 4096) := by omega
    have hrec : ∀ p : List UInt8, pcall C (n + 4199) 10 [vR p] = some ([vO (blobN p).1, vI (blobN p).2], []) := fun p => s10 (n + 4187) p
    have := row_loop (pcall C (n + 4199)) (n + 4199) l (by omega) hrec (n + 4199) 0 (be 4 (l.length : Int)) (by omega) (by omega) (by rw [be_length]; omega)
    simp only [bbs_length, c, decide_false, ifB_eq, Bool.false_eq_true, if_false, hl, h, List.nil_append, callB_some, ok22, needB_true, List.headD_cons, fvF, xsO]
    exact this
end Go.Proofs.Ythkmnomnfmjffaa

open Go Go.Ev

set_option linter.unusedSimpArgs false

set_option linter.unusedVariables false

set_option maxHeartbeats 1000000

namespace Go.Proofs.Ythkmnomnfmjffaa

abbrev nn (l : List (List UInt8)) : List FV := l.map fun p => FV.own none (bb p) []
abbrev vN (l : List (List UInt8)) : OV := .flat (.val (.sl none (bbs l)))
theorem ok32 (l : List (List UInt8)) (n e : Int) : okOs Go.Proofs.Try.prog [32, 3, 25] [.v, .v, .v] [vN l, vI n, vI e] = true := by kernel_rfl
def takeRowGo : Nat → List UInt8 → Nat → List (List UInt8) → List (List UInt8) × Nat × Int
  | 0, _, p, acc => (acc, p, 0)
  | k + 1, l, p, acc => if (takeBlobN (l.drop p)).2.2 = 0 then takeRowGo k l (p + (takeBlobN (l.drop p)).2.1.toNat) (acc ++ [(takeBlobN (l.drop p)).1]) else ([], 0, (takeBlobN (l.drop p)).2.2)
def takeRowN (l : List UInt8) : List (List UInt8) × Nat × Int :=
  if l.length < 4 then ([], 0, 3) else if valN 0 (l.take 4) > 4096 then ([], 0, 2) else takeRowGo (valN 0 (l.take 4)) l 4 []
theorem takeBlob_used (l : List UInt8) (h : (takeBlobN l).2.2 = 0) : 0 ≤ (takeBlobN l).2.1 ∧ (takeBlobN l).2.1.toNat ≤ l.length := by
  unfold takeBlobN at h ⊢
  by_cases h1 : l.length < 4
  · simp [h1] at h
  · by_cases h2 : valN 0 (l.take 4) > 65536
    · simp [h1, h2] at h
    · by_cases h3 : l.length < 4 + valN 0 (l.take 4)
      · simp [h1, h2, h3] at h
      · rw [if_neg h1, if_neg h2, if_neg h3]
        dsimp only
        omega
theorem ok223 (l : List UInt8) (n e : Int) : okOs Go.Proofs.Try.prog [22, 3, 25] [.o, .v, .v] [vO l, vI n, vI e] = true := ok22325 l n e
theorem takeRow_loop (rec : Rec) (n : Nat) (l : List UInt8) (hl : l.length ≤ 4611686018427387904) (hrec : ∀ p : List UInt8, p.length ≤ l.length → rec 11 [vR p] = some ([vO (takeBlobN p).1, vI (takeBlobN p).2.1, vI (takeBlobN p).2.2], [])) : ∀ (k m i p : Nat) (acc : List (List UInt8)), k < m → i + k ≤ 4096 → p ≤ l.length → acc.length ≤ i →
    f17_plain_TakeRow.l0 rec n m (bb l) (p : Int) (nn acc) ((i + k : Nat) : Int) (i : Int) = some ([.cont .nest (nn (takeRowGo k l p acc).1), vI ((takeRowGo k l p acc).2.1 : Int), vI (takeRowGo k l p acc).2.2], [])
  | k, 0, i, p, acc, h1, h2, h3, h4 => by omega
  | 0, m + 1, i, p, acc, h1, h2, h3, h4 => by
    show f17_plain_TakeRow.l0.step rec n (f17_plain_TakeRow.l0 rec n m) (bb l) _ (nn acc) _ _ = _
    unfold f17_plain_TakeRow.l0.step
    have c1 : ¬ ((i : Int) < ((i + 0 : Nat) : Int)) := by omega
    simp only [c1, decide_false, ifB_eq, Bool.false_eq_true, if_false, takeRowGo]
  | k + 1, m + 1, i, p, acc, h1, h2, h3, h4 => by
    show f17_plain_TakeRow.l0.step rec n (f17_plain_TakeRow.l0 rec n m) (bb l) _ (nn acc) _ _ = _
    unfold f17_plain_TakeRow.l0.step
    have c1 : ((i : Int) < ((i + (k + 1) : Nat) : Int)) := by omega
    have c2 : (0 : Int) ≤ (p : Int) := by omega
    have c3 : (p : Int) ≤ (l.length : Int) := by omega
    have w := wrap_nat i (by omega)
    have hr := hrec (l.drop p) (by simp)
    have hu := takeBlob_used (l.drop p)
    rw [List.length_drop] at hu
    have b1 : Nat.ble ((acc.length + 1) * 24) 140737488355328 = true := by rw [Nat.ble_eq]; omega
    have b2 : Nat.ble (acc.length + 1) 9223372036854775807 = true := by rw [Nat.ble_eq]; omega
    have ln : (nn acc).length = acc.length := by simp [nn]
    simp only [c1, c2, c3, decide_true, needB_true, bb_length, Int.toNat_natCast, bb_drop, hr, callB_some, ok223, List.headD_cons, List.tail_cons, fvF, pvF, toI_int, xsO, ifB_eq, if_true, List.length_cons, List.length_nil, Nat.zero_add, ln, b1, b2, w]
    by_cases h0 : (takeBlobN (l.drop p)).2.2 = 0
    · obtain ⟨u1, u2⟩ := hu h0
      have w2 : IntKind.wrap .i64 ((p : Int) + (takeBlobN (l.drop p)).2.1) = ((p + (takeBlobN (l.drop p)).2.1.toNat : Nat) : Int) := by rw [IntKind.wrap_i64]; omega
      have e1 : ((i + (k + 1) : Nat) : Int) = (((i + 1) + k : Nat) : Int) := by omega
      have e2 : nn acc ++ [FV.own none (bb (takeBlobN (l.drop p)).1) []] = nn (acc ++ [(takeBlobN (l.drop p)).1]) := by simp [nn]
      have ih := takeRow_loop rec n l hl hrec k m (i + 1) (p + (takeBlobN (l.drop p)).2.1.toNat) (acc ++ [(takeBlobN (l.drop p)).1]) (by omega) (by omega) (by omega) (by simp; omega)
      simp only [h0, bne_self_eq_false, Bool.false_eq_true, if_false, takeRowGo, if_true, w2, e1, e2, ih]
    · have : ((takeBlobN (l.drop p)).2.2 != 0) = true := by simpa using h0
      simp only [this, h0, if_true, if_false, takeRowGo]
      rfl
theorem frz_nest (l : List (List UInt8)) (a b : OV) : frzR [true] [.cont .nest (nn l), a, b] = [vN l, a, b] := by
  simp [frzR, OV.pv, OV.whole, OV.frz, nn, List.map_map, Function.comp_def, FV.frz]
theorem s17 (n : Nat) (l : List UInt8) (hl : l.length ≤ 4611686018427387904) : pcall C (n + 4200) 17 [vR l] = some ([vN (takeRowN l).1, vI ((takeRowN l).2.1 : Int), vI (takeRowN l).2.2], []) := by
  have key : callBody C (pcall C (n + 4199)) (n + 4199) 17 [vR l] = some ([.cont .nest (nn (takeRowN l).1), vI ((takeRowN l).2.1 : Int), vI (takeRowN l).2.2], []) := by
    rw [f17_plain_TakeRow_eq]
    unfold f17_plain_TakeRow f17_plain_TakeRow.pre takeRowN
    have h : pcall C (n + 4199) 30 [vR l, vI 4096] = _ := s30 (n + 4187) l 4096
    unfold countN at h
    by_cases h4 : l.length < 4
    · rw [if_pos h4] at h
      simp only [h, callB_some, ok325, needB_true, List.headD_cons, List.tail_cons, fvF, pvF, toI_int, h4, if_true, ifB_eq, show ((3 : Int) != 0) = true from rfl]
      rfl
    · rw [if_neg h4] at h
      obtain ⟨t1, t2⟩ := take4 l (by omega)
      rw [t1] at h
      by_cases hb : valN 0 (l.take 4) > 4096
      · rw [if_pos (by omega)] at h
        simp only [h, callB_some, ok325, needB_true, List.headD_cons, List.tail_cons, fvF, pvF, toI_int, h4, hb, if_true, if_false, ifB_eq, show ((2 : Int) != 0) = true from rfl]
        rfl
      · rw [if_neg (by omega)] at h
        have hrec : ∀ p : List UInt8, p.length ≤ l.length → pcall C (n + 4199) 11 [vR p] = some ([vO (takeBlobN p).1, vI (takeBlobN p).2.1, vI (takeBlobN p).2.2], []) := fun p hp => s11 (n + 4186) p (by omega)
        have := takeRow_loop (pcall C (n + 4199)) (n + 4199) l hl hrec (valN 0 (l.take 4)) (n + 4199) 0 4 [] (by omega) (by omega) (by omega) (by simp)
        rw [Nat.zero_add] at this
        simp only [h, callB_some, ok325, needB_true, List.headD_cons, List.tail_cons, fvF, pvF, toI_int, h4, hb, if_false, ifB_eq, show ((0 : Int) != 0) = false from rfl, Bool.false_eq_true]
        exact this
  show frzM (C.frz 17) (callBody C (pcall C (n + 4199)) (n + 4199) 17 [vR l]) = _
  rw [key]
  show some (frzR [true] _, _) = _
  rw [frz_nest]
end Go.Proofs.Ythkmnomnfmjffaa

open Go Go.Ev

set_option linter.unusedSimpArgs false

set_option linter.unusedVariables false

set_option maxHeartbeats 1000000

namespace Go.Proofs.Ythkmnomnfmjffaa

theorem ok_22 (l : List UInt8) : okOs Go.Proofs.Try.prog [22] [.o] [vO l] = true := ok22 l
theorem ok_3 (n : Int) : okOs Go.Proofs.Try.prog [3] [] [vI n] = true := by kernel_rfl
theorem s32 (n : Nat) (a : Nat) (ha : a < 4294967296) : pcall C (n + 1) 32 [vI (a : Int)] = some ([vO (be 4 (a : Int))], []) := by
  rw [pcall_step (by rfl) (by rfl), f32_vestryref01_four_eq]
  unfold f32_vestryref01_four
  have e1 : IntKind.wrap .i64 (Int.tdiv (a : Int) 16777216) = (a : Int) / 256 ^ 3 := by
    rw [IntKind.wrap_i64, Int.tdiv_eq_ediv_of_nonneg (by omega)]; omega
  have e2 : IntKind.wrap .i64 (Int.tdiv (a : Int) 65536) = (a : Int) / 256 ^ 2 := by
    rw [IntKind.wrap_i64, Int.tdiv_eq_ediv_of_nonneg (by omega)]; omega
  have e3 : IntKind.wrap .i64 (Int.tdiv (a : Int) 256) = (a : Int) / 256 ^ 1 := by
    rw [IntKind.wrap_i64, Int.tdiv_eq_ediv_of_nonneg (by omega)]; omega
  have e4 : (a : Int) / 256 ^ 0 = (a : Int) := by simp
  rw [e1, e2, e3]
  simp only [pvByte_of, be, e4, bb, List.map_cons, List.map_nil]
  rfl
theorem wrap_in (z : Int) (h0 : 0 ≤ z) (h1 : z < 9223372036854775808) : IntKind.wrap .i64 z = z := by
  rw [IntKind.wrap_i64]; omega
theorem four_list {l : List UInt8} (h : 4 ≤ l.length) : ∃ a b c d r, l = a :: b :: c :: d :: r := by
  match l, h with
  | a :: b :: c :: d :: r, _ => exact ⟨a, b, c, d, r, rfl⟩
theorem s33 (n : Nat) (l : List UInt8) (h : 4 ≤ l.length) : pcall C (n + 1) 33 [vR l] = some ([vI (valN 0 (l.take 4) : Int)], []) := by
  rw [pcall_step (by rfl) (by rfl), f33_vestryref01_count_eq]
  unfold f33_vestryref01_count
  obtain ⟨a, b, c, d, r, rfl⟩ := four_list h
  have c0 : ((0 : Int) < (((bb (a :: b :: c :: d :: r)).length : Nat) : Int)) := by rw [bb_length]; simp only [List.length_cons]; omega
  have c1 : ((1 : Int) < (((bb (a :: b :: c :: d :: r)).length : Nat) : Int)) := by rw [bb_length]; simp only [List.length_cons]; omega
  have c2 : ((2 : Int) < (((bb (a :: b :: c :: d :: r)).length : Nat) : Int)) := by rw [bb_length]; simp only [List.length_cons]; omega
  have c3 : ((3 : Int) < (((bb (a :: b :: c :: d :: r)).length : Nat) : Int)) := by rw [bb_length]; simp only [List.length_cons]; omega
  have n0 : nthP (bb (a :: b :: c :: d :: r)) 0 = pvByte a := rfl
  have n1 : nthP (bb (a :: b :: c :: d :: r)) 1 = pvByte b := rfl
  have n2 : nthP (bb (a :: b :: c :: d :: r)) 2 = pvByte c := rfl
  have n3 : nthP (bb (a :: b :: c :: d :: r)) 3 = pvByte d := rfl
  simp only [c0, c1, c2, c3, n0, n1, n2, n3, decide_true, needB_true, hasT5, toI_byte]
  have ha := a.toNat_lt
  have hb := b.toNat_lt
  have hc := c.toNat_lt
  have hd := d.toNat_lt
  have e : valN 0 ((a :: b :: c :: d :: r).take 4) = ((a.toNat * 256 + b.toNat) * 256 + c.toNat) * 256 + d.toNat := by simp [valN]
  rw [e]
  rw [wrap_in (a.toNat : Int) (by omega) (by omega), wrap_in (b.toNat : Int) (by omega) (by omega), wrap_in (c.toNat : Int) (by omega) (by omega), wrap_in (d.toNat : Int) (by omega) (by omega)]
  rw [wrap_in ((a.toNat : Int) * 16777216) (by omega) (by omega), wrap_in ((b.toNat : Int) * 65536) (by omega) (by omega), wrap_in ((c.toNat : Int) * 256) (by omega) (by omega)]
  rw [wrap_in ((a.toNat : Int) * 16777216 + (b.toNat : Int) * 65536) (by omega) (by omega), wrap_in ((a.toNat : Int) * 16777216 + (b.toNat : Int) * 65536 + (c.toNat : Int) * 256) (by omega) (by omega), wrap_in _ (by omega) (by omega)]
  refine congrArg (fun z : Int => some ([vI z], [])) ?_
  omega
theorem s12 (n : Nat) (l : List UInt8) : pcall C (n + 2) 12 [vR l] = some ([vO (blobN l).1, vI (blobN l).2], []) := by
  rw [pcall_step (by rfl) (by rfl), f12_vestryref01_Blob_eq]
  unfold f12_vestryref01_Blob blobN
  by_cases hl : l.length > 65536
  · have c : (((l.length : Nat) : Int) > 65536) := by omega
    simp only [bb_length, c, decide_true, ifB_eq, if_true, hl]
    rfl
  · have c : ¬ (((l.length : Nat) : Int) > 65536) := by omega
    have h := s32 n l.length (by omega)
    have b1 : Nat.ble ((4 + l.length) * 1) 140737488355328 = true := by rw [Nat.ble_eq]; omega
    have b2 : Nat.ble (4 + l.length) 9223372036854775807 = true := by rw [Nat.ble_eq]; omega
    simp only [bb_length, c, decide_false, ifB_eq, Bool.false_eq_true, if_false, hl, h, List.nil_append, callB_some, ok22, needB_true, List.headD_cons, fvF, xsO, be_length, b1, b2, bb_append]
theorem s13 (n : Nat) (l : List UInt8) (hl : l.length ≤ 9223372036854775807) : pcall C (n + 2) 13 [vR l] = some ([vO (takeBlobN l).1, vI (takeBlobN l).2.1, vI (takeBlobN l).2.2], []) := by
  rw [pcall_step (by rfl) (by rfl), f13_vestryref01_TakeBlob_eq]
  unfold f13_vestryref01_TakeBlob takeBlobN
  by_cases h4 : l.length < 4
  · have c : (((l.length : Nat) : Int) < 4) := by omega
    simp only [bb_length, c, decide_true, ifB_eq, if_true, h4]
    rfl
  · have c : ¬ (((l.length : Nat) : Int) < 4) := by omega
    have h := s33 n l (by omega)
    obtain ⟨_, t2⟩ := take4 l (by omega)
    simp only [bb_length, c, decide_false, ifB_eq, Bool.false_eq_true, if_false, h4, h, callB_some, ok_3, needB_true, List.headD_cons, fvF, pvF, toI_int]
    by_cases hb : valN 0 (l.take 4) > 65536
    · have c : ((valN 0 (l.take 4) : Int) > 65536) := by omega
      simp only [c, decide_true, if_true, hb]
      rfl
    · have c : ¬ ((valN 0 (l.take 4) : Int) > 65536) := by omega
      have w1 : IntKind.wrap .i64 ((l.length : Int) - 4) = (l.length : Int) - 4 := by rw [IntKind.wrap_i64]; omega
      have w2 : IntKind.wrap .i64 (4 + (valN 0 (l.take 4) : Int)) = ((4 + valN 0 (l.take 4) : Nat) : Int) := by rw [IntKind.wrap_i64]; omega
      simp only [c, decide_false, Bool.false_eq_true, if_false, hb, w1, w2]
      by_cases hc : l.length < 4 + valN 0 (l.take 4)
      · have c : ((l.length : Int) - 4 < (valN 0 (l.take 4) : Int)) := by omega
        simp only [c, decide_true, if_true, hc]
        rfl
      · have c : ¬ ((l.length : Int) - 4 < (valN 0 (l.take 4) : Int)) := by omega
        have c1 : (4 : Int) ≤ ((4 + valN 0 (l.take 4) : Nat) : Int) := by omega
        have c2 : ((4 + valN 0 (l.take 4) : Nat) : Int) ≤ (l.length : Int) := by omega
        have e : List.drop 4 (List.take (4 + valN 0 (l.take 4)) l) = List.take (valN 0 (l.take 4)) (l.drop 4) := by
          rw [List.drop_take]
          congr 1
          omega
        have el : (List.take (valN 0 (l.take 4)) (l.drop 4)).length ≤ 65536 := by rw [List.length_take]; omega
        have b1 : Nat.ble ((0 + (List.take (valN 0 (l.take 4)) (l.drop 4)).length) * 1) 140737488355328 = true := by rw [Nat.ble_eq]; omega
        have b2 : Nat.ble (0 + (List.take (valN 0 (l.take 4)) (l.drop 4)).length) 9223372036854775807 = true := by rw [Nat.ble_eq]; omega
        simp only [c, c1, c2, decide_true, decide_false, Bool.false_eq_true, if_false, hc, needB_true, Int.toNat_natCast, bb_take, bb_drop, e, List.length_nil, bb_length, b1, b2, List.nil_append]
end Go.Proofs.Ythkmnomnfmjffaa

open Go Go.Ev

set_option linter.unusedSimpArgs false

set_option linter.unusedVariables false

set_option maxHeartbeats 1000000

namespace Go.Proofs.Ythkmnomnfmjffaa

theorem rrow_loop (rec : Rec) (n : Nat) (l : List (List UInt8)) (hl : l.length ≤ 4096) (hrec : ∀ p : List UInt8, rec 12 [vR p] = some ([vO (blobN p).1, vI (blobN p).2], [])) : ∀ (m i : Nat) (out : List UInt8), l.length < m + i → i ≤ l.length → out.length ≤ 4 + 65540 * i →
    f18_vestryref01_Row.l0 rec n m (bbs l) (bb out) (i : Int) = some ([vO (rowGo out (l.drop i)).1, vI (rowGo out (l.drop i)).2], [])
  | 0, i, out, h1, h2, h3 => by omega
  | m + 1, i, out, h1, h2, h3 => by
    show f18_vestryref01_Row.l0.step rec n (f18_vestryref01_Row.l0 rec n m) (bbs l) (bb out) _ = _
    unfold f18_vestryref01_Row.l0.step
    by_cases hi : i < l.length
    · have c1 : ((i : Int) < (l.length : Int)) := by omega
      have c2 : (0 : Int) ≤ (i : Int) := by omega
      have w := wrap_nat i (by omega)
      have hbl := blob_len l[i]
      have ih := rrow_loop rec n l hl hrec m (i + 1) (out ++ (blobN l[i]).1) (by omega) (by omega) (by simp; omega)
      have hd : l.drop i = l[i] :: l.drop (i + 1) := List.drop_eq_getElem_cons hi
      have b1 : Nat.ble ((out.length + (blobN l[i]).1.length) * 1) 140737488355328 = true := by rw [Nat.ble_eq]; omega
      have b2 : Nat.ble (out.length + (blobN l[i]).1.length) 9223372036854775807 = true := by rw [Nat.ble_eq]; omega
      simp only [c1, c2, decide_true, needB_true, bbs_length, bb_length, Int.toNat_natCast, nth_bbs hi, hasT22, toL_sl, hrec, callB_some, ok2225, List.headD_cons, List.tail_cons, fvF, pvF, toI_int, xsO, b1, b2, bb_append, w, ih, ifB_eq, if_true, hd, rowGo]
      by_cases h0 : (blobN l[i]).2 = 0
      · simp only [h0, bne_self_eq_false, Bool.false_eq_true, if_false, if_true]
      · have : ((blobN l[i]).2 != 0) = true := by simpa using h0
        simp only [this, h0, if_true, if_false]
        rfl
    · have c1 : ¬ ((i : Int) < (l.length : Int)) := by omega
      have hd : l.drop i = [] := List.drop_eq_nil_of_le (by omega)
      simp only [bbs_length, c1, decide_false, ifB_eq, Bool.false_eq_true, if_false, hd, rowGo]
theorem s18 (n : Nat) (l : List (List UInt8)) : pcall C (n + 4200) 18 [.flat (.val (.sl none (bbs l)))] = some ([vO (rowN l).1, vI (rowN l).2], []) := by
  rw [pcall_step (by rfl) (by rfl), f18_vestryref01_Row_eq]
  unfold f18_vestryref01_Row f18_vestryref01_Row.pre rowN
  by_cases hl : l.length > 4096
  · have c : ((l.length : Int) > 4096) := by omega
    simp only [bbs_length, c, decide_true, ifB_eq, if_true, hl]
    rfl
  · have c : ¬ ((l.length : Int) > 4096) := by omega
    have h : pcall C (n + 4199) 32 [vI (l.length : Int)] = _ := s32 (n + 4198) l.length (by omega)
    have hrec : ∀ p : List UInt8, pcall C (n + 4199) 12 [vR p] = some ([vO (blobN p).1, vI (blobN p).2], []) := fun p => s12 (n + 4197) p
    have := rrow_loop (pcall C (n + 4199)) (n + 4199) l (by omega) hrec (n + 4199) 0 (be 4 (l.length : Int)) (by omega) (by omega) (by rw [be_length]; omega)
    simp only [bbs_length, c, decide_false, ifB_eq, Bool.false_eq_true, if_false, hl, h, List.nil_append, callB_some, ok22, needB_true, List.headD_cons, fvF, xsO]
    exact this
theorem rtakeRow_loop (rec : Rec) (n : Nat) (l : List UInt8) (hl : l.length ≤ 4611686018427387904) (hrec : ∀ p : List UInt8, p.length ≤ l.length → rec 13 [vR p] = some ([vO (takeBlobN p).1, vI (takeBlobN p).2.1, vI (takeBlobN p).2.2], [])) : ∀ (k m i p : Nat) (acc : List (List UInt8)), k < m → i + k ≤ 4096 → p ≤ l.length → acc.length ≤ i →
    f19_vestryref01_TakeRow.l0 rec n m (bb l) ((i + k : Nat) : Int) (p : Int) (nn acc) (i : Int) = some ([.cont .nest (nn (takeRowGo k l p acc).1), vI ((takeRowGo k l p acc).2.1 : Int), vI (takeRowGo k l p acc).2.2], [])
  | k, 0, i, p, acc, h1, h2, h3, h4 => by omega
  | 0, m + 1, i, p, acc, h1, h2, h3, h4 => by
    show f19_vestryref01_TakeRow.l0.step rec n (f19_vestryref01_TakeRow.l0 rec n m) (bb l) _ _ (nn acc) _ = _
    unfold f19_vestryref01_TakeRow.l0.step
    have c1 : ¬ ((i : Int) < ((i + 0 : Nat) : Int)) := by omega
    simp only [c1, decide_false, ifB_eq, Bool.false_eq_true, if_false, takeRowGo]
  | k + 1, m + 1, i, p, acc, h1, h2, h3, h4 => by
    show f19_vestryref01_TakeRow.l0.step rec n (f19_vestryref01_TakeRow.l0 rec n m) (bb l) _ _ (nn acc) _ = _
    unfold f19_vestryref01_TakeRow.l0.step
    have c1 : ((i : Int) < ((i + (k + 1) : Nat) : Int)) := by omega
    have c2 : (0 : Int) ≤ (p : Int) := by omega
    have c3 : (p : Int) ≤ (l.length : Int) := by omega
    have w := wrap_nat i (by omega)
    have hr := hrec (l.drop p) (by simp)
    have hu := takeBlob_used (l.drop p)
    rw [List.length_drop] at hu
    have b1 : Nat.ble ((acc.length + 1) * 24) 140737488355328 = true := by rw [Nat.ble_eq]; omega
    have b2 : Nat.ble (acc.length + 1) 9223372036854775807 = true := by rw [Nat.ble_eq]; omega
    have ln : (nn acc).length = acc.length := by simp [nn]
    simp only [c1, c2, c3, decide_true, needB_true, bb_length, Int.toNat_natCast, bb_drop, hr, callB_some, ok223, List.headD_cons, List.tail_cons, fvF, pvF, toI_int, xsO, ifB_eq, if_true, List.length_cons, List.length_nil, Nat.zero_add, ln, b1, b2, w]
    by_cases h0 : (takeBlobN (l.drop p)).2.2 = 0
    · obtain ⟨u1, u2⟩ := hu h0
      have w2 : IntKind.wrap .i64 ((p : Int) + (takeBlobN (l.drop p)).2.1) = ((p + (takeBlobN (l.drop p)).2.1.toNat : Nat) : Int) := by rw [IntKind.wrap_i64]; omega
      have e1 : ((i + (k + 1) : Nat) : Int) = (((i + 1) + k : Nat) : Int) := by omega
      have e2 : nn acc ++ [FV.own none (bb (takeBlobN (l.drop p)).1) []] = nn (acc ++ [(takeBlobN (l.drop p)).1]) := by simp [nn]
      have ih := rtakeRow_loop rec n l hl hrec k m (i + 1) (p + (takeBlobN (l.drop p)).2.1.toNat) (acc ++ [(takeBlobN (l.drop p)).1]) (by omega) (by omega) (by omega) (by simp; omega)
      simp only [h0, bne_self_eq_false, Bool.false_eq_true, if_false, takeRowGo, if_true, w2, e1, e2, ih]
    · have : ((takeBlobN (l.drop p)).2.2 != 0) = true := by simpa using h0
      simp only [this, h0, if_true, if_false, takeRowGo]
      rfl
theorem s19 (n : Nat) (l : List UInt8) (hl : l.length ≤ 4611686018427387904) : pcall C (n + 4200) 19 [vR l] = some ([vN (takeRowN l).1, vI ((takeRowN l).2.1 : Int), vI (takeRowN l).2.2], []) := by
  have key : callBody C (pcall C (n + 4199)) (n + 4199) 19 [vR l] = some ([.cont .nest (nn (takeRowN l).1), vI ((takeRowN l).2.1 : Int), vI (takeRowN l).2.2], []) := by
    rw [f19_vestryref01_TakeRow_eq]
    unfold f19_vestryref01_TakeRow f19_vestryref01_TakeRow.pre takeRowN
    by_cases h4 : l.length < 4
    · have c : ((l.length : Int) < 4) := by omega
      simp only [bb_length, c, decide_true, ifB_eq, if_true, h4]
      rfl
    · have c : ¬ ((l.length : Int) < 4) := by omega
      have h : pcall C (n + 4199) 33 [vR l] = _ := s33 (n + 4198) l (by omega)
      obtain ⟨_, t2⟩ := take4 l (by omega)
      simp only [bb_length, c, decide_false, ifB_eq, Bool.false_eq_true, if_false, h4, h, callB_some, ok_3, needB_true, List.headD_cons, fvF, pvF, toI_int]
      by_cases hb : valN 0 (l.take 4) > 4096
      · have c : ((valN 0 (l.take 4) : Int) > 4096) := by omega
        simp only [c, decide_true, if_true, hb]
        rfl
      · have c : ¬ ((valN 0 (l.take 4) : Int) > 4096) := by omega
        have hrec : ∀ p : List UInt8, p.length ≤ l.length → pcall C (n + 4199) 13 [vR p] = some ([vO (takeBlobN p).1, vI (takeBlobN p).2.1, vI (takeBlobN p).2.2], []) := fun p hp => s13 (n + 4197) p (by omega)
        have := rtakeRow_loop (pcall C (n + 4199)) (n + 4199) l hl hrec (valN 0 (l.take 4)) (n + 4199) 0 4 [] (by omega) (by omega) (by omega) (by simp)
        rw [Nat.zero_add] at this
        simp only [c, decide_false, Bool.false_eq_true, if_false, hb]
        exact this
  show frzM (C.frz 19) (callBody C (pcall C (n + 4199)) (n + 4199) 19 [vR l]) = _
  rw [key]
  show some (frzR [true] _, _) = _
  rw [frz_nest]
end Go.Proofs.Ythkmnomnfmjffaa

open Go Go.Ev

set_option linter.unusedSimpArgs false

set_option linter.unusedVariables false

set_option maxHeartbeats 1000000

namespace Go.Proofs.Ythkmnomnfmjffaa

/-- A number in 64 bits. -/
def w64 (z : Int) : Int := IntKind.wrap .i64 z
theorem w64_w64 (z : Int) : w64 (w64 z) = w64 z := by simp only [w64, IntKind.wrap_i64]; omega
theorem ofInt_wrap (z : Int) : BitVec.ofInt 64 (IntKind.wrap .i64 z) = BitVec.ofInt 64 z := by
  apply BitVec.eq_of_toNat_eq
  rw [BitVec.toNat_ofInt, BitVec.toNat_ofInt, IntKind.wrap_i64]
  omega
theorem stepT_wrap (x : Int) (b : UInt8) : stepT x b = w64 (x * 256 + (b.toNat : Int)) := by
  have hb := b.toNat_lt
  unfold stepT w64
  have e1 : (2 : Int) ^ (min 8 (IntKind.bits .i64)) = 256 := by decide
  rw [e1]
  show IntKind.wrap .i64 (((BitVec.ofInt 64 (IntKind.wrap .i64 (x * 256))) ||| (BitVec.ofInt 64 (IntKind.wrap .i64 ((b.toNat : Nat) : Int)))).toNat : Int) = _
  rw [ofInt_wrap, ofInt_wrap]
  have h1 : (BitVec.ofInt 64 (x * 256)).toNat = (x % 72057594037927936).toNat * 256 := by
    rw [BitVec.toNat_ofInt]; omega
  have h2 : (BitVec.ofInt 64 ((b.toNat : Nat) : Int)).toNat = b.toNat := by
    rw [BitVec.toNat_ofInt]; omega
  rw [BitVec.toNat_or, h1, h2]
  have h3 : (x % 72057594037927936).toNat * 256 ||| b.toNat = (x % 72057594037927936).toNat * 256 + b.toNat := by
    have := Nat.shiftLeft_add_eq_or_of_lt (b := b.toNat) (i := 8) (by omega) (x % 72057594037927936).toNat
    rw [Nat.shiftLeft_eq] at this
    exact this.symm
  rw [h3, IntKind.wrap_i64, IntKind.wrap_i64]
  omega
theorem w64_step (x : Int) (b : UInt8) : stepT (w64 x) b = w64 (x * 256 + (b.toNat : Int)) := by
  rw [stepT_wrap]
  simp only [w64, IntKind.wrap_i64]
  omega
theorem takeF_val : ∀ (l : List UInt8) (x : Nat), takeF (w64 (x : Int)) l = w64 (valN x l : Int)
  | [], x => rfl
  | b :: r, x => by
    simp only [takeF, valN]
    rw [w64_step]
    have := takeF_val r (x * 256 + b.toNat)
    rw [← this]
    congr 1
theorem takeF_zero (l : List UInt8) : takeF 0 l = w64 (valN 0 l : Int) := takeF_val l 0
def takeNumN (l : List UInt8) : Int × Int × Int := if l.length < 8 then (0, 0, 3) else (w64 (valN 0 (l.take 8) : Int), 8, 0)
theorem s23 (n : Nat) (l : List UInt8) : pcall C (n + 12) 23 [vR l] = some ([vI (takeNumN l).1, vI (takeNumN l).2.1, vI (takeNumN l).2.2], []) := by
  rw [pcall_step (by rfl) (by rfl), f23_plain_TakeNum_eq]
  unfold f23_plain_TakeNum takeNumN
  have h : pcall C (n + 11) 34 [vR l, vI 8] = _ := s34 n l 8 (by omega)
  by_cases hl : l.length < 8
  · rw [if_pos hl] at h
    simp only [h, callB_some, ok34, needB_true, List.headD_cons, List.tail_cons, fvF, pvF, toI_int, toB_bool, Bool.not_false, ifB_eq, if_true, hl]
  · rw [if_neg hl, takeF_zero] at h
    simp only [h, callB_some, ok34, needB_true, List.headD_cons, List.tail_cons, fvF, pvF, toI_int, toB_bool, Bool.not_true, ifB_eq, Bool.false_eq_true, if_false, hl]
theorem ok3325 (a b c : Int) : okOs Go.Proofs.Try.prog [3, 3, 25] [] [vI a, vI b, vI c] = true := by kernel_rfl
def takeKeyN (l : List UInt8) : Int × Int × Int := if l.length < 8 then (0, 0, 3) else (w64 (valN 0 (l.take 8) + 9223372036854775808), 8, 0)
theorem xor_pow (k v : Nat) (h : v < 2 ^ (k + 1)) : v ^^^ 2 ^ k = (v + 2 ^ k) % 2 ^ (k + 1) := by
  apply Nat.eq_of_testBit_eq
  intro j
  rw [Nat.testBit_xor, Nat.testBit_mod_two_pow, Nat.testBit_two_pow, Nat.add_comm v (2 ^ k)]
  rcases Nat.lt_trichotomy j k with hj | hj | hj
  · rw [Nat.testBit_two_pow_add_gt hj]
    have h1 : decide (k = j) = false := decide_eq_false (by omega)
    have h2 : decide (j < k + 1) = true := decide_eq_true (by omega)
    rw [h1, h2]
    simp
  · subst hj
    rw [Nat.testBit_two_pow_add_eq]
    simp
  · have h1 : decide (k = j) = false := decide_eq_false (by omega)
    have h2 : decide (j < k + 1) = false := decide_eq_false (by omega)
    have h3 : v.testBit j = false := Nat.testBit_lt_two_pow (Nat.lt_of_lt_of_le h (Nat.pow_le_pow_right (by decide) (by omega)))
    rw [h1, h2, h3]
    rfl
theorem xor_top (v : Nat) (h : v < 18446744073709551616) : v ^^^ 9223372036854775808 = (v + 9223372036854775808) % 18446744073709551616 := xor_pow 63 v h
theorem xor_min (z : Int) : IntKind.wrap .i64 ((((BitVec.ofInt (IntKind.bits .i64) z) ^^^ (BitVec.ofInt (IntKind.bits .i64) (-9223372036854775808))).toNat : Nat) : Int) = w64 (z + 9223372036854775808) := by
  show IntKind.wrap .i64 ((((BitVec.ofInt 64 z) ^^^ (BitVec.ofInt 64 (-9223372036854775808))).toNat : Nat) : Int) = _
  have h1 : (BitVec.ofInt 64 (-9223372036854775808)).toNat = 9223372036854775808 := by decide
  have h2 : (BitVec.ofInt 64 z).toNat = (z % 18446744073709551616).toNat := by rw [BitVec.toNat_ofInt]; rfl
  rw [BitVec.toNat_xor, h1, h2, xor_top _ (by omega), w64, IntKind.wrap_i64, IntKind.wrap_i64]
  omega
theorem s24 (n : Nat) (l : List UInt8) : pcall C (n + 13) 24 [vR l] = some ([vI (takeKeyN l).1, vI (takeKeyN l).2.1, vI (takeKeyN l).2.2], []) := by
  rw [pcall_step (by rfl) (by rfl), f24_plain_TakeNumKey_eq]
  unfold f24_plain_TakeNumKey takeKeyN
  have h := s23 n l
  unfold takeNumN at h
  by_cases hl : l.length < 8
  · rw [if_pos hl] at h
    simp only [h, callB_some, ok3325, needB_true, List.headD_cons, List.tail_cons, fvF, pvF, toI_int, show ((3 : Int) != 0) = true from rfl, ifB_eq, if_true, hl]
  · rw [if_neg hl] at h
    have e : w64 (w64 (valN 0 (l.take 8) : Int) + 9223372036854775808) = w64 ((valN 0 (l.take 8) : Int) + 9223372036854775808) := by
      simp only [w64, IntKind.wrap_i64]; omega
    simp only [h, callB_some, ok3325, needB_true, List.headD_cons, List.tail_cons, fvF, pvF, toI_int, show ((0 : Int) != 0) = false from rfl, ifB_eq, Bool.false_eq_true, if_false, hl, xor_min, e]
theorem rnum_loop (rec : Rec) (n : Nat) (l : List UInt8) (hl : 8 ≤ l.length) : ∀ (m i : Nat) (x : Int), 8 < m + i → i ≤ 8 →
    f25_vestryref01_TakeNum.l0 rec n m (bb l) x (i : Int) = some ([vI (takeF x ((l.take 8).drop i)), vI 8, vI 0], [])
  | 0, i, x, h1, h2 => by omega
  | m + 1, i, x, h1, h2 => by
    show f25_vestryref01_TakeNum.l0.step rec n (f25_vestryref01_TakeNum.l0 rec n m) (bb l) _ _ = _
    unfold f25_vestryref01_TakeNum.l0.step
    by_cases hi : i < 8
    · have c1 : ((i : Int) < 8) := by omega
      have c2 : (0 : Int) ≤ (i : Int) := by omega
      have c3 : ((i : Int) < (l.length : Int)) := by omega
      have hi' : i < l.length := by omega
      have w := wrap_nat i (by omega)
      have ih := rnum_loop rec n l hl m (i + 1) (stepT x l[i]) (by omega) (by omega)
      have hd : (l.take 8).drop i = l[i] :: (l.take 8).drop (i + 1) := by
        rw [List.drop_eq_getElem_cons (by rw [List.length_take]; omega)]
        congr 1
        rw [List.getElem_take]
      unfold stepT at ih
      simp only [c1, c2, c3, decide_true, needB_true, bb_length, Int.toNat_natCast, nth_bb hi', hasT5, toI_byte, w, ih, ifB_eq, if_true, hd, takeF, stepT]
    · have c1 : ¬ ((i : Int) < 8) := by omega
      have hd : (l.take 8).drop i = [] := List.drop_eq_nil_of_le (by rw [List.length_take]; omega)
      simp only [c1, decide_false, ifB_eq, Bool.false_eq_true, if_false, hd, takeF]
theorem s25 (n : Nat) (l : List UInt8) : pcall C (n + 11) 25 [vR l] = some ([vI (takeNumN l).1, vI (takeNumN l).2.1, vI (takeNumN l).2.2], []) := by
  rw [pcall_step (by rfl) (by rfl), f25_vestryref01_TakeNum_eq]
  unfold f25_vestryref01_TakeNum f25_vestryref01_TakeNum.pre takeNumN
  by_cases hl : l.length < 8
  · have c : ((l.length : Int) < 8) := by omega
    simp only [bb_length, c, decide_true, ifB_eq, if_true, hl]
  · have c : ¬ ((l.length : Int) < 8) := by omega
    have := rnum_loop (pcall C (n + 10)) (n + 10) l (by omega) (n + 10) 0 0 (by omega) (by omega)
    simp only [bb_length, c, decide_false, ifB_eq, Bool.false_eq_true, if_false, hl]
    rw [List.drop_zero, takeF_zero] at this
    exact this
theorem valN_add : ∀ (l : List UInt8) (x : Nat), valN x l = x * 256 ^ l.length + valN 0 l
  | [], x => by simp [valN]
  | b :: r, x => by
    simp only [valN, List.length_cons]
    rw [valN_add r (x * 256 + b.toNat), valN_add r (0 * 256 + b.toNat), Nat.pow_succ, Nat.add_mul, Nat.zero_mul, Nat.zero_add, Nat.mul_assoc, Nat.mul_comm 256 (256 ^ r.length), Nat.add_assoc]
theorem xor128 (b : UInt8) : (b ^^^ 128).toNat = (b.toNat + 128) % 256 := by
  rw [UInt8.toNat_xor]
  exact xor_pow 7 b.toNat b.toNat_lt
theorem s26 (n : Nat) (l : List UInt8) : pcall C (n + 12) 26 [vR l] = some ([vI (takeKeyN l).1, vI (takeKeyN l).2.1, vI (takeKeyN l).2.2], []) := by
  rw [pcall_step (by rfl) (by rfl), f26_vestryref01_TakeNumKey_eq]
  unfold f26_vestryref01_TakeNumKey takeKeyN
  by_cases hl : l.length < 8
  · have c : ((l.length : Int) < 8) := by omega
    simp only [bb_length, c, decide_true, ifB_eq, if_true, hl]
  · have c : ¬ ((l.length : Int) < 8) := by omega
    have c8 : ((8 : Int) ≤ (l.length : Int)) := by omega
    have ht : (l.take 8).length = 8 := by rw [List.length_take]; omega
    obtain ⟨b, r, hb⟩ : ∃ b r, l.take 8 = b :: r := by
      match l.take 8, ht with
      | b :: r, _ => exact ⟨b, r, rfl⟩
    have hr : r.length = 7 := by rw [hb] at ht; simpa using ht
    have h := s25 n ((b ^^^ 128) :: r)
    unfold takeNumN at h
    have t8 : ((b ^^^ 128) :: r).take 8 = (b ^^^ 128) :: r := List.take_of_length_le (by simp; omega)
    rw [if_neg (by simp; omega), t8] at h
    have n0 : nthP (bb (b :: r)) 0 = pvByte b := rfl
    have ti : PV.toI (pvByte b) = ((b.toNat : Nat) : Int) := rfl
    have l0 : Nat.blt 0 (b :: r).length = true := by rw [Nat.blt_eq]; simp
    have c0 : (0 : Int) < (((b :: r).length : Nat) : Int) := by simp only [List.length_cons]; omega
    have st : List.set (bb (b :: r)) 0 (pvByte (b ^^^ 128)) = bb ((b ^^^ 128) :: r) := rfl
    have b1 : Nat.ble ((0 + (b :: r).length) * 1) 140737488355328 = true := by rw [Nat.ble_eq, List.length_cons]; omega
    have b2 : Nat.ble (0 + (b :: r).length) 9223372036854775807 = true := by rw [Nat.ble_eq, List.length_cons]; omega
    have e : w64 (valN 0 ((b ^^^ 128) :: r) : Int) = w64 ((valN 0 (b :: r) : Int) + 9223372036854775808) := by
      have hbl := b.toNat_lt
      have v1 : valN 0 ((b ^^^ 128) :: r) = (b ^^^ 128).toNat * 72057594037927936 + valN 0 r := by
        simp only [valN]; rw [valN_add r, hr]; simp
      have v2 : valN 0 (b :: r) = b.toNat * 72057594037927936 + valN 0 r := by
        simp only [valN]; rw [valN_add r, hr]; simp
      rw [v1, v2, xor128]
      simp only [w64, IntKind.wrap_i64]
      omega
    simp only [bb_length, c, c8, decide_false, decide_true, needB_true, ifB_eq, Bool.false_eq_true, if_false, hl, bb_take, hb, List.length_nil, b1, b2, List.nil_append, c0, l0, n0, hasT5, ti, xor_byte, st, h, callB_some, ok3325, List.headD_cons, List.tail_cons, fvF, pvF, toI_int]
    rw [e]
end Go.Proofs.Ythkmnomnfmjffaa

open Go Go.Ev

set_option linter.unusedSimpArgs false

set_option linter.unusedVariables false

set_option maxHeartbeats 1000000

namespace Go.Proofs.Ythkmnomnfmjffaa

theorem ediv_pow (v : Int) (s : Nat) : (v / 256) / 256 ^ s = v / 256 ^ (s + 1) := by
  rw [Int.ediv_ediv_of_nonneg (by decide)]
  congr 1
  rw [Int.pow_succ, Int.mul_comm]
theorem be_last : ∀ (s : Nat) (v : Int), be (s + 1) v = be s (v / 256) ++ [byteOf v]
  | 0, v => by simp [be]
  | s + 1, v => by
    have ih := be_last s v
    show byteOf (v / 256 ^ (s + 1)) :: be (s + 1) v = (byteOf (v / 256 / 256 ^ s) :: be s (v / 256)) ++ [byteOf v]
    rw [ih, ediv_pow]
    rfl
theorem rep_set (a b : UInt8) : ∀ (s : Nat) (t : List UInt8), (List.replicate (s + 1) a ++ t).set s b = List.replicate s a ++ b :: t
  | 0, t => rfl
  | s + 1, t => by
    have ih := rep_set a b s t
    show a :: ((List.replicate (s + 1) a ++ t).set s b) = a :: (List.replicate s a ++ b :: t)
    rw [ih]
theorem bb_set (l : List UInt8) (i : Nat) (b : UInt8) : List.set (bb l) i (pvByte b) = bb (l.set i b) := by simp [bb, List.map_set]
theorem rNum_loop (rec : Rec) (n : Nat) : ∀ (s : Nat) (v : Int) (t : List UInt8) (m : Nat), s ≤ 8 → s < m →
    f27_vestryref01_Num.l0 rec n m v (bb (List.replicate s 0 ++ t)) ((s : Int) - 1) = some ([vO (be s v ++ t)], [])
  | s, v, t, 0, h1, h2 => by omega
  | 0, v, t, m + 1, h1, h2 => by
    show f27_vestryref01_Num.l0.step rec n (f27_vestryref01_Num.l0 rec n m) _ _ _ = _
    unfold f27_vestryref01_Num.l0.step
    have c : ¬ (((0 : Nat) : Int) - 1 ≥ 0) := by omega
    simp only [c, decide_false, ifB_eq, Bool.false_eq_true, if_false, be, List.nil_append, List.replicate_zero]
  | s + 1, v, t, m + 1, h1, h2 => by
    show f27_vestryref01_Num.l0.step rec n (f27_vestryref01_Num.l0 rec n m) _ _ _ = _
    unfold f27_vestryref01_Num.l0.step
    have e : ((s + 1 : Nat) : Int) - 1 = (s : Int) := by omega
    rw [e]
    have c : ((s : Int) ≥ 0) := by omega
    have c' : ((0 : Int) ≤ (s : Int)) := by omega
    have ln : (List.replicate (s + 1) (0 : UInt8) ++ t).length = s + 1 + t.length := by simp
    have c2 : ((s : Int) < ((s + 1 + t.length : Nat) : Int)) := by omega
    have c3 : Nat.blt s (s + 1 + t.length) = true := by rw [Nat.blt_eq]; omega
    have w : IntKind.wrap .i64 ((s : Int) - 1) = (s : Int) - 1 := by rw [IntKind.wrap_i64]; omega
    have ed : Int.fdiv v ((2 : Int) ^ (min 8 (IntKind.bits .i64))) = v / 256 := by
      rw [show (2 : Int) ^ (min 8 (IntKind.bits .i64)) = 256 by decide, Int.fdiv_eq_ediv_of_nonneg _ (by decide)]
    have ih := rNum_loop rec n s (v / 256) (byteOf v :: t) m (by omega) (by omega)
    simp only [c, c', decide_true, needB_true, bb_length, ln, c2, c3, Int.toNat_natCast, ed, pvByte_of, bb_set, rep_set, w, ih, ifB_eq, if_true, be_last, List.append_assoc, List.cons_append, List.nil_append]
theorem s27 (n : Nat) (x : Int) : pcall C (n + 12) 27 [vI x] = some ([vO (be 8 x)], []) := by
  rw [pcall_step (by rfl) (by rfl), f27_vestryref01_Num_eq]
  unfold f27_vestryref01_Num f27_vestryref01_Num.pre
  have h := rNum_loop (pcall C (n + 11)) (n + 11) 8 x [] (n + 11) (by omega) (by omega)
  rw [List.append_nil, List.append_nil] at h
  have b : Nat.ble (1 * 8) 140737488355328 = true := by decide
  simp only [b, needB_true]
  exact h
theorem s28 (n : Nat) (x : Int) : pcall C (n + 13) 28 [vI x] = some ([vO (keyOf x)], []) := by
  rw [pcall_step (by rfl) (by rfl), f28_vestryref01_NumKey_eq]
  unfold f28_vestryref01_NumKey
  have h := s27 n x
  have hk : ∃ b r, be 8 x = b :: r := ⟨_, _, rfl⟩
  obtain ⟨b, r, hb⟩ := hk
  have hkey : keyOf x = (b ^^^ 128) :: r := by unfold keyOf; rw [hb]
  have n0 : nthP (bb (b :: r)) 0 = pvByte b := rfl
  have ti : PV.toI (pvByte b) = ((b.toNat : Nat) : Int) := rfl
  have l0 : Nat.blt 0 (bb (b :: r)).length = true := by rw [Nat.blt_eq, bb_length]; simp
  have c0 : (0 : Int) < (((bb (b :: r)).length : Nat) : Int) := by rw [bb_length]; simp only [List.length_cons]; omega
  have st : List.set (bb (b :: r)) 0 (pvByte (b ^^^ 128)) = bb ((b ^^^ 128) :: r) := rfl
  rw [hb] at h
  simp only [h, callB_some, ok22, needB_true, List.headD_cons, fvF, xsO, n0, hasT5, ti, l0, c0, decide_true, xor_byte, st, hkey]

/-! the laws' helpers -/
abbrev vLent (l : List UInt8) : OV := .flat (.own none (bb l) [.int .u8 77])
theorem s9 (n : Nat) (l : List UInt8) (hl : l.length + 1 ≤ 140737488355328) : pcall C (n + 1) 9 [vR l] = some ([vLent l], []) := by
  rw [pcall_prim (p := primLent) (by rfl)]
  have hb : Nat.ble ((bb l).length + 1) 140737488355328 = true := by rw [Nat.ble_eq, bb_length]; exact hl
  have h : ((bb l).all isByte && Nat.ble ((bb l).length + 1) 140737488355328) = true := by rw [isByte_bb, hb]; rfl
  unfold primLent
  dsimp only
  rw [h]
theorem u8_bb (l : List UInt8) : List.map u8Of (bb l) = l := by
  simp only [bb, List.map_map]
  conv => rhs; rw [← List.map_id l]
  refine List.map_congr_left fun b _ => ?_
  simp [u8Of, pvByte]
theorem s14 (n : Nat) (l : List UInt8) (hl : l.length + 1 ≤ 140737488355328) : pcall C (n + 1) 14 [vLent l, vR l] = some ([vB true], [vLent l, .flat .gone]) := by
  rw [pcall_prim (p := primKept) (by rfl)]
  have hb : Nat.ble ((bb l).length + 1) 140737488355328 = true := by rw [Nat.ble_eq, bb_length]; exact hl
  have h : ((bb l).all isByte && (bb l).all isByte && isByte (.int .u8 77) && Nat.ble ((bb l).length + 1) 140737488355328) = true := by
    rw [isByte_bb, hb]; decide
  unfold primKept
  dsimp only
  rw [h]
  dsimp only
  rw [beq_self_eq_true]
  rfl
theorem s15 (n : Nat) (cs : List FV) (h : cs.all isRowB = true) (hl : cs.length ≤ 1000000) : pcall C (n + 1) 15 [.cont .nest cs] = some ([vB true], [.flat .gone]) := by
  rw [pcall_prim (p := primOwned) (by rfl)]
  have h2 : (cs.all isRowB && Nat.ble cs.length 1000000) = true := by
    rw [h, Bool.true_and, Nat.ble_eq]; exact hl
  unfold primOwned
  dsimp only
  rw [h2]
theorem spO (sh : Option Nat) (l sp : List PV) : FV.sp (.own sh l sp) = sp := rfl
theorem row22s (l : List UInt8) : okRow Go.Proofs.Try.prog 22 (bb l) [.int .u8 77] = true := by
  have h1 : tElem Go.Proofs.Try.prog 22 = some 5 := by kernel_rfl
  unfold okRow
  rw [h1]
  dsimp only
  split
  · rw [all5, show ([.int .u8 77] : List PV).all (hasT Go.Proofs.Try.prog 5) = true by kernel_rfl]; rfl
  · rfl
theorem ok22s (l : List UInt8) : okOs Go.Proofs.Try.prog [22] [.os] [vLent l] = true := by
  have h1 : elemShape Go.Proofs.Try.prog 22 = none := by kernel_rfl
  show ((shEq (elemShape Go.Proofs.Try.prog 22) none && okRow Go.Proofs.Try.prog 22 (bb l) [.int .u8 77]) && true) = true
  rw [h1, row22s]; rfl
theorem out22s (l : List UInt8) : okOuts Go.Proofs.Try.prog [22, 22] [.io .os, .ro] [vLent l, .flat .gone] = true := by
  have h1 : elemShape Go.Proofs.Try.prog 22 = none := by kernel_rfl
  show ((shEq (elemShape Go.Proofs.Try.prog 22) none && okRow Go.Proofs.Try.prog 22 (bb l) [.int .u8 77]) && true) = true
  rw [h1, row22s]; rfl
theorem small40 (n : Nat) : pcall C (n + 40) 8 [] = some ([vB true], []) := by kernel_rfl
theorem s3 (n : Nat) (a b : List UInt8) (ha : a.length + 1 ≤ 140737488355328) (hb : b.length + 1 ≤ 140737488355328) : pcall C (n + 61) 3 [vR a, vR b] = some ([vB true], []) := by
  rw [pcall_step (by rfl) (by rfl), f3_vestrylaw01_PlainBlobs_eq]
  unfold f3_vestrylaw01_PlainBlobs
  have h1 : pcall C (n + 60) 8 [] = _ := small40 (n + 20)
  have h2 : pcall C (n + 60) 9 [vR a] = _ := s9 (n + 59) a ha
  have h3 : pcall C (n + 60) 9 [vR b] = _ := s9 (n + 59) b hb
  have h4 : pcall C (n + 60) 10 [vR a] = _ := s10 (n + 48) a
  have h5 : pcall C (n + 60) 11 [vR b] = _ := s11 (n + 47) b (by omega)
  have h6 : pcall C (n + 60) 12 [vR a] = _ := s12 (n + 58) a
  have h7 : pcall C (n + 60) 13 [vR b] = _ := s13 (n + 58) b (by omega)
  have h8 : pcall C (n + 60) 14 [vLent a, vR a] = _ := s14 (n + 59) a ha
  have h9 : pcall C (n + 60) 14 [vLent b, vR b] = _ := s14 (n + 59) b hb
  have h10 : pcall C (n + 60) 15 [.cont .nest [.own none (bb (blobN a).1) [], .own none (bb (takeBlobN b).1) [], .own none (bb a) [.int .u8 77], .own none (bb b) [.int .u8 77]]] = _ := s15 (n + 59) _ rfl (by simp only [List.length_cons, List.length_nil]; omega)
  simp only [h1, h2, h3, h4, h5, h6, h7, h8, h9, h10, callB_some, ok4, ok22s, ok2225, ok22325, out22s, needB_true, List.headD_cons, List.tail_cons, fvF, pvF, xsO, spO, toI_int, toB_bool, isByte_bb, u8_bb, beq_self_eq_true, ifB_eq, if_true]
theorem ok_ooo (a b c : Int) : okOs Go.Proofs.Try.prog [3, 3, 25] [] [vI a, vI b, vI c] = true := ok3325 a b c
theorem s7 (n : Nat) (x : Int) (b : List UInt8) (hb : b.length + 1 ≤ 140737488355328) : pcall C (n + 61) 7 [vI x, vR b] = some ([vB true], []) := by
  rw [pcall_step (by rfl) (by rfl), f7_vestrylaw01_PlainNumbers_eq]
  unfold f7_vestrylaw01_PlainNumbers
  have h1 : pcall C (n + 60) 8 [] = _ := small40 (n + 20)
  have h3 : pcall C (n + 60) 9 [vR b] = _ := s9 (n + 59) b hb
  have h4 : pcall C (n + 60) 22 [vI x] = _ := s22 (n + 48) x
  have h5 : pcall C (n + 60) 21 [vI x] = _ := s21 (n + 47) x
  have h6 : pcall C (n + 60) 23 [vR b] = _ := s23 (n + 48) b
  have h7 : pcall C (n + 60) 24 [vR b] = _ := s24 (n + 47) b
  have h8 : pcall C (n + 60) 25 [vR b] = _ := s25 (n + 49) b
  have h8' : pcall C (n + 60) 26 [vR b] = _ := s26 (n + 48) b
  have h9 : pcall C (n + 60) 14 [vLent b, vR b] = _ := s14 (n + 59) b hb
  have h11 : pcall C (n + 60) 27 [vI x] = _ := s27 (n + 48) x
  have h12 : pcall C (n + 60) 28 [vI x] = _ := s28 (n + 47) x
  have h10 : pcall C (n + 60) 15 [.cont .nest [.own none (bb (be 8 x)) [], .own none (bb (keyOf x)) [], .own none (bb b) [.int .u8 77]]] = _ := s15 (n + 59) _ rfl (by simp only [List.length_cons, List.length_nil]; omega)
  simp only [h1, h3, h4, h5, h6, h7, h8, h8', h9, h10, h11, h12, callB_some, ok4, ok22s, ok22, ok3325, out22s, needB_true, List.headD_cons, List.tail_cons, fvF, pvF, xsO, spO, toI_int, toB_bool, isByte_bb, u8_bb, beq_self_eq_true, ifB_eq, if_true]
end Go.Proofs.Ythkmnomnfmjffaa

open Go Go.Ev

set_option linter.unusedSimpArgs false

set_option linter.unusedVariables false

set_option maxHeartbeats 1000000

namespace Go.Proofs.Ythkmnomnfmjffaa

theorem byteOf_toNat (z : Int) : ((byteOf z).toNat : Int) = z % 256 := by
  unfold byteOf
  have : (z % 256).toNat < 256 := by omega
  simp [UInt8.toNat_ofNat', Nat.mod_eq_of_lt this]
  omega
theorem byteOf_mod {x y : Int} (h : x % 256 = y % 256) : byteOf x = byteOf y := by unfold byteOf; rw [h]
theorem be_mod : ∀ (s : Nat) (x y : Int), (∀ i, i < s → (x / 256 ^ i) % 256 = (y / 256 ^ i) % 256) → be s x = be s y
  | 0, x, y, h => rfl
  | s + 1, x, y, h => by
    unfold be
    rw [byteOf_mod (h s (by omega)), be_mod s x y fun i hi => h i (by omega)]
/-- A number's key, its number raised to be none below nought. -/
theorem key_be (x : Int) : keyOf x = be 8 (x + 9223372036854775808) := by
  have e : be 8 x = byteOf (x / 256 ^ 7) :: be 7 x := rfl
  unfold keyOf
  rw [e]
  show (byteOf (x / 256 ^ 7) ^^^ 128) :: be 7 x = byteOf ((x + 9223372036854775808) / 256 ^ 7) :: be 7 (x + 9223372036854775808)
  congr 1
  · apply UInt8.toNat_inj.mp
    rw [xor128]
    have h1 := byteOf_toNat (x / 256 ^ 7)
    have h2 := byteOf_toNat ((x + 9223372036854775808) / 256 ^ 7)
    have e7 : (256 : Int) ^ 7 = 72057594037927936 := by decide
    rw [e7] at h1 h2
    rw [e7]
    omega
  · apply be_mod
    intro i hi
    match i, hi with
    | 0, _ => simp only [Int.pow_zero]; omega
    | 1, _ => rw [show (256 : Int) ^ 1 = 256 by decide]; omega
    | 2, _ => rw [show (256 : Int) ^ 2 = 65536 by decide]; omega
    | 3, _ => rw [show (256 : Int) ^ 3 = 16777216 by decide]; omega
    | 4, _ => rw [show (256 : Int) ^ 4 = 4294967296 by decide]; omega
    | 5, _ => rw [show (256 : Int) ^ 5 = 1099511627776 by decide]; omega
    | 6, _ => rw [show (256 : Int) ^ 6 = 281474976710656 by decide]; omega
theorem nth_mid (a : List UInt8) (b : UInt8) (t : List UInt8) : nthP (bb (a ++ b :: t)) a.length = pvByte b := by
  have h : a.length < (a ++ b :: t).length := by simp
  rw [nth_bb h]
  congr 1
  simp
theorem be_zero_last (s : Nat) (q : Int) (h : q % 256 = 255) : be (s + 1) (q + 1) = be s (q / 256 + 1) ++ [0] := by
  rw [be_last]
  have e1 : (q + 1) / 256 = q / 256 + 1 := by omega
  have e2 : byteOf (q + 1) = 0 := by
    apply UInt8.toNat_inj.mp
    have := byteOf_toNat (q + 1)
    have e : ((0 : UInt8).toNat) = 0 := rfl
    rw [e]; omega
  rw [e1, e2]
theorem keys_loop (rec : Rec) (n : Nat) : ∀ (s : Nat) (q : Int) (t1 t2 : List UInt8) (m : Nat), s < m → s + t1.length = 8 → s + t2.length = 8 → 0 ≤ q → q + 1 < 256 ^ s →
    f6_vestrylaw01_PlainKeys.l0 rec n m true (bb (be s q ++ t1)) (bb (be s (q + 1) ++ t2)) ((s : Int) - 1) = some ([vB true], [])
  | s, q, t1, t2, 0, h1, h2, h3, h4, h5 => by omega
  | 0, q, t1, t2, m + 1, h1, h2, h3, h4, h5 => by simp at h5; omega
  | s + 1, q, t1, t2, m + 1, h1, h2, h3, h4, h5 => by
    show f6_vestrylaw01_PlainKeys.l0.step rec n (f6_vestrylaw01_PlainKeys.l0 rec n m) true _ _ _ = _
    unfold f6_vestrylaw01_PlainKeys.l0.step
    have e : ((s + 1 : Nat) : Int) - 1 = (s : Int) := by omega
    rw [e]
    have c : ((s : Int) ≥ 0) := by omega
    have c' : ((0 : Int) ≤ (s : Int)) := by omega
    have k1 : be (s + 1) q ++ t1 = be s (q / 256) ++ byteOf q :: t1 := by rw [be_last, List.append_assoc]; rfl
    have k2 : be (s + 1) (q + 1) ++ t2 = be s ((q + 1) / 256) ++ byteOf (q + 1) :: t2 := by rw [be_last, List.append_assoc]; rfl
    have l1 : (be s (q / 256) ++ byteOf q :: t1).length = 8 := by simp [be_length]; omega
    have l2 : (be s ((q + 1) / 256) ++ byteOf (q + 1) :: t2).length = 8 := by simp [be_length]; omega
    have n1 : nthP (bb (be s (q / 256) ++ byteOf q :: t1)) s = pvByte (byteOf q) := by
      have := nth_mid (be s (q / 256)) (byteOf q) t1
      rw [be_length] at this
      exact this
    have n2 : nthP (bb (be s ((q + 1) / 256) ++ byteOf (q + 1) :: t2)) s = pvByte (byteOf (q + 1)) := by
      have := nth_mid (be s ((q + 1) / 256)) (byteOf (q + 1)) t2
      rw [be_length] at this
      exact this
    have c1 : ((s : Int) < ((8 : Nat) : Int)) := by omega
    have c2 : Nat.blt s 8 = true := by rw [Nat.blt_eq]; omega
    have c3 : ((s : Int) ≤ ((8 : Nat) : Int)) := by omega
    have b1 := byteOf_toNat q
    have b2 := byteOf_toNat (q + 1)
    have w : IntKind.wrap .i64 ((s : Int) - 1) = (s : Int) - 1 := by rw [IntKind.wrap_i64]; omega
    rw [k1, k2]
    by_cases hq : q % 256 = 255
    · have x1 : ((((byteOf q).toNat : Nat) : Int) == 255) = true := by rw [b1, hq]; rfl
      have x2 : ((((byteOf (q + 1)).toNat : Nat) : Int) != 0) = false := by
        have : (((byteOf (q + 1)).toNat : Nat) : Int) = 0 := by omega
        rw [this]; rfl
      have z2 := be_zero_last s q hq
      have hp : (256 : Int) ^ (s + 1) = 256 ^ s * 256 := Int.pow_succ 256 s
      have ih := keys_loop rec n s (q / 256) (byteOf q :: t1) (byteOf (q + 1) :: t2) m (by omega) (by simp; omega) (by simp; omega) (by omega) (by omega)
      have e3 : (q + 1) / 256 = q / 256 + 1 := by omega
      rw [e3] at k2 l2 n2
      rw [e3]
      simp only [c, c', decide_true, needB_true, bb_length, l1, l2, c1, c2, Int.toNat_natCast, n1, n2, hasT5, toI_byte, x1, x2, ifB_eq, if_true, if_false, Bool.false_eq_true, w, ih]
    · have x1 : ((((byteOf q).toNat : Nat) : Int) == 255) = false := by
        rw [b1]; simpa using hq
      have x2 : ((((byteOf (q + 1)).toNat : Nat) : Int) == IntKind.wrap .u8 ((((byteOf q).toNat : Nat) : Int) + 1)) = true := by
        have : IntKind.wrap .u8 ((((byteOf q).toNat : Nat) : Int) + 1) = (((byteOf (q + 1)).toNat : Nat) : Int) := by
          rw [b1, b2]
          simp [IntKind.wrap, IntKind.bits, IntKind.signed]
          try omega
        rw [this, beq_self_eq_true]
      have e3 : (q + 1) / 256 = q / 256 := by omega
      have y8 : ((((8 : Nat) : Int) == (8 : Int)) : Bool) = true := rfl
      have tk1 : List.take s (be s (q / 256) ++ byteOf q :: t1) = be s (q / 256) := by
        rw [List.take_append_of_le_length (by rw [be_length]; exact Nat.le_refl _), List.take_of_length_le (by rw [be_length]; exact Nat.le_refl _)]
      have tk2 : List.take s (be s ((q + 1) / 256) ++ byteOf (q + 1) :: t2) = be s (q / 256) := by
        rw [List.take_append_of_le_length (by rw [be_length]; exact Nat.le_refl _), List.take_of_length_le (by rw [be_length]; exact Nat.le_refl _), e3]
      simp only [c, c', decide_true, needB_true, bb_length, l1, l2, c1, c2, c3, Int.toNat_natCast, n1, n2, hasT5, toI_byte, x1, x2, y8, ifB_eq, if_true, if_false, Bool.false_eq_true, Nat.sub_zero, List.drop_zero, bb_take, tk1, tk2, isByte_bb, u8_bb, beq_self_eq_true]
theorem s6 (n : Nat) (x : Int) (h0 : -9223372036854775808 ≤ x) (h1 : x ≤ 9223372036854775807) : pcall C (n + 61) 6 [vI x] = some ([vB true], []) := by
  rw [pcall_step (by rfl) (by rfl), f6_vestrylaw01_PlainKeys_eq]
  unfold f6_vestrylaw01_PlainKeys f6_vestrylaw01_PlainKeys.pre
  have h2 : pcall C (n + 60) 8 [] = _ := small40 (n + 20)
  have h3 : pcall C (n + 60) 21 [vI x] = _ := s21 (n + 47) x
  have lk : ∀ z, (keyOf z).length = 8 := fun z => by rw [key_be, be_length]
  have y8 : ((((8 : Nat) : Int) == (8 : Int)) : Bool) = true := rfl
  have y8' : ((((8 : Nat) : Int) != (8 : Int)) : Bool) = false := rfl
  by_cases hx : x = 9223372036854775807
  · subst hx
    have k : keyOf 9223372036854775807 = [255, 255, 255, 255, 255, 255, 255, 255] := by decide +kernel
    simp only [h2, h3, callB_some, ok4, ok22, needB_true, List.headD_cons, fvF, pvF, toB_bool, xsO, beq_self_eq_true, ifB_eq, if_true, bb_length, lk, y8, isByte_bb, u8_bb, k]
    rfl
  · have hx' : (x == (9223372036854775807 : Int)) = false := by simpa using hx
    have w : IntKind.wrap .i64 (x + 1) = x + 1 := by rw [IntKind.wrap_i64]; omega
    have h4 : pcall C (n + 60) 21 [vI (x + 1)] = _ := s21 (n + 47) (x + 1)
    have hl := keys_loop (pcall C (n + 60)) (n + 60) 8 (x + 9223372036854775808) [] [] (n + 60) (by omega) rfl rfl (by omega) (by rw [show (256 : Int) ^ 8 = 18446744073709551616 by decide]; omega)
    rw [List.append_nil, List.append_nil, ← key_be, show x + 9223372036854775808 + 1 = (x + 1) + 9223372036854775808 by omega, ← key_be] at hl
    simp only [h2, h3, h4, w, callB_some, ok4, ok22, needB_true, List.headD_cons, fvF, pvF, toB_bool, xsO, hx', ifB_eq, if_true, if_false, Bool.false_eq_true, bb_length, lk, y8']
    exact hl
end Go.Proofs.Ythkmnomnfmjffaa

open Go Go.Ev

set_option linter.unusedSimpArgs false

set_option linter.unusedVariables false

set_option maxHeartbeats 1000000

namespace Go.Proofs.Ythkmnomnfmjffaa

/-- Blobs, one behind the other. -/
def encs : List (List UInt8) → List UInt8
  | [] => []
  | p :: r => be 4 (p.length : Int) ++ (p ++ encs r)
def fits (l : List (List UInt8)) : Prop := ∀ p ∈ l, p.length ≤ 65536
theorem rowGo_ok : ∀ (l : List (List UInt8)) (out : List UInt8), fits l → rowGo out l = (out ++ encs l, 0)
  | [], out, h => by simp [rowGo, encs]
  | p :: r, out, h => by
    have hp : ¬ p.length > 65536 := by
      have := h p (by simp)
      omega
    have e : blobN p = (be 4 (p.length : Int) ++ p, 0) := by unfold blobN; rw [if_neg hp]
    simp only [rowGo, e, if_true]
    rw [rowGo_ok r _ fun q hq => h q (by simp [hq])]
    simp [encs, List.append_assoc]
theorem rowGo_no : ∀ (l : List (List UInt8)) (out : List UInt8), ¬ fits l → rowGo out l = ([], 2)
  | [], out, h => (h fun p hp => by simp at hp).elim
  | p :: r, out, h => by
    by_cases hp : p.length > 65536
    · have e : blobN p = ([], 2) := by unfold blobN; rw [if_pos hp]
      simp only [rowGo, e]
      rw [if_neg (by decide)]
    · have e : blobN p = (be 4 (p.length : Int) ++ p, 0) := by unfold blobN; rw [if_neg hp]
      simp only [rowGo, e, if_true]
      refine rowGo_no r _ fun hr => h fun q hq => ?_
      rcases List.mem_cons.mp hq with rfl | hq
      · omega
      · exact hr q hq
theorem valN_snoc : ∀ (l : List UInt8) (x : Nat) (b : UInt8), valN x (l ++ [b]) = valN x l * 256 + b.toNat
  | [], x, b => rfl
  | c :: r, x, b => by
    simp only [List.cons_append, valN]
    exact valN_snoc r _ b
theorem valN_be : ∀ (s : Nat) (x : Nat), x < 256 ^ s → valN 0 (be s (x : Int)) = x
  | 0, x, h => by simp at h; simp [be, valN, h]
  | s + 1, x, h => by
    rw [be_last, valN_snoc]
    have e : ((x : Int) / 256) = ((x / 256 : Nat) : Int) := by omega
    rw [e, valN_be s (x / 256) (by rw [Nat.pow_succ] at h; omega)]
    have := byteOf_toNat (x : Int)
    omega
/-- Of what is cut off behind a blob's begin the end is told. -/
theorem takeBlob_cut (p s : List UInt8) (j : Nat) (hp : p.length ≤ 65536) : 
    (j < 4 + p.length → (takeBlobN ((be 4 (p.length : Int) ++ (p ++ s)).take j)).2.2 = 3) ∧
    (4 + p.length ≤ j → takeBlobN ((be 4 (p.length : Int) ++ (p ++ s)).take j) = (p, ((4 + p.length : Nat) : Int), 0)) := by
  have l4 : (be 4 (p.length : Int)).length = 4 := be_length _ _
  have hv : ∀ j, 4 ≤ j → ((be 4 (p.length : Int) ++ (p ++ s)).take j).take 4 = be 4 (p.length : Int) := by
    intro j hj
    rw [List.take_take, Nat.min_eq_left hj, List.take_append_of_le_length (by omega), List.take_of_length_le (by omega)]
  have hb := valN_be 4 p.length (by omega)
  constructor
  · intro h
    unfold takeBlobN
    by_cases h4 : ((be 4 (p.length : Int) ++ (p ++ s)).take j).length < 4
    · rw [if_pos h4]
    · have : 4 ≤ j := by rw [List.length_take] at h4; omega
      rw [if_neg h4, hv j this, hb, if_neg (by omega), if_pos (by rw [List.length_take]; omega)]
  · intro h
    unfold takeBlobN
    have hl : ((be 4 (p.length : Int) ++ (p ++ s)).take j).length = min j (4 + (p.length + s.length)) := by simp [l4]
    rw [if_neg (by rw [hl]; omega), hv j (by omega), hb, if_neg (by omega), if_neg (by rw [hl]; omega)]
    have e : (((be 4 (p.length : Int) ++ (p ++ s)).take j).drop 4).take p.length = p := by
      rw [List.drop_take, List.drop_append_of_le_length (by omega), List.drop_of_length_le (by omega), List.nil_append, List.take_take, Nat.min_eq_left (by omega), List.take_left]
    rw [e]
theorem takeRowGo_cut : ∀ (l : List (List UInt8)) (L : List UInt8) (p : Nat) (acc : List (List UInt8)) (j : Nat), fits l → j < (encs l).length → L.drop p = (encs l).take j → (takeRowGo l.length L p acc).2.2 = 3
  | [], L, p, acc, j, h, hj, hd => by simp [encs] at hj
  | q :: r, L, p, acc, j, h, hj, hd => by
    have hq := h q (by simp)
    obtain ⟨c1, c2⟩ := takeBlob_cut q (encs r) j hq
    have e : encs (q :: r) = be 4 (q.length : Int) ++ (q ++ encs r) := rfl
    rw [← e, ← hd] at c1 c2
    have l4 : (be 4 (q.length : Int)).length = 4 := be_length _ _
    show (takeRowGo (r.length + 1) L p acc).2.2 = 3
    by_cases hc : j < 4 + q.length
    · have := c1 hc
      simp only [takeRowGo]
      rw [if_neg (by rw [this]; decide)]
      exact this
    · have := c2 (by omega)
      simp only [takeRowGo]
      rw [if_pos (by rw [this]), this]
      refine takeRowGo_cut r L _ _ (j - (4 + q.length)) (fun x hx => h x (by simp [hx])) ?_ ?_
      · rw [e] at hj
        simp only [List.length_append, l4] at hj
        omega
      · show L.drop (p + ((4 + q.length : Nat) : Int).toNat) = _
        rw [Int.toNat_natCast, ← List.drop_drop, hd, List.drop_take, e, ← List.append_assoc]
        rw [List.drop_append_of_le_length (by simp [l4]), List.drop_of_length_le (by simp [l4]), List.nil_append]
theorem takeRow_cut (l : List (List UInt8)) (hl : l.length ≤ 4096) (h : fits l) (k : Nat) (hk : k < (be 4 (l.length : Int) ++ encs l).length) : (takeRowN ((be 4 (l.length : Int) ++ encs l).take k)).2.2 = 3 := by
  have l4 : (be 4 (l.length : Int)).length = 4 := be_length _ _
  unfold takeRowN
  by_cases h4 : ((be 4 (l.length : Int) ++ encs l).take k).length < 4
  · rw [if_pos h4]
  · have hk4 : 4 ≤ k := by rw [List.length_take] at h4; omega
    have hv : ((be 4 (l.length : Int) ++ encs l).take k).take 4 = be 4 (l.length : Int) := by
      rw [List.take_take, Nat.min_eq_left hk4, List.take_append_of_le_length (by omega), List.take_of_length_le (by omega)]
    rw [if_neg h4, hv, valN_be 4 l.length (by omega), if_neg (by omega)]
    refine takeRowGo_cut l _ 4 [] (k - 4) h (by simp only [List.length_append, l4] at hk; omega) ?_
    rw [List.drop_take, List.drop_append_of_le_length (by omega), List.drop_of_length_le (by omega), List.nil_append]
theorem encs_len : ∀ (l : List (List UInt8)), fits l → (encs l).length ≤ 65540 * l.length
  | [], h => by simp [encs]
  | p :: r, h => by
    have := encs_len r fun q hq => h q (by simp [hq])
    have hp := h p (by simp)
    simp only [encs, List.length_append, be_length, List.length_cons]
    omega
theorem ok_tr (l : List (List UInt8)) (n e : Int) : okOs Go.Proofs.Try.prog [32, 3, 25] [.v, .v, .v] [vN l, vI n, vI e] = true := ok32 l n e
theorem tmod_in (c : Int) (L : Nat) (h : 0 < L) : (Int.tmod c (L : Int) < 0 → 0 ≤ Int.tmod c (L : Int) + L ∧ Int.tmod c (L : Int) + L < L) ∧ (¬ Int.tmod c (L : Int) < 0 → Int.tmod c (L : Int) < L) := by
  have h1 : (Int.tmod c (L : Int)).natAbs = c.natAbs % L := by
    rw [Int.natAbs_tmod]; rfl
  have h2 := Nat.mod_lt c.natAbs h
  omega
theorem cut_loop (rec : Rec) (n : Nat) (l : List (List UInt8)) (cut : Int) (hl : l.length ≤ 4096) (hf : fits l) (hrec : ∀ p : List UInt8, p.length ≤ 300000000 → rec 17 [vR p] = some ([vN (takeRowN p).1, vI ((takeRowN p).2.1 : Int), vI (takeRowN p).2.2], [])) : ∀ (m i s : Nat), l.length < m + i → i ≤ l.length → s + (encs (l.drop i)).length = (be 4 (l.length : Int) ++ encs l).length →
    f5_vestrylaw01_PlainCuts.l0 rec n m (bbs l) cut true (bb (be 4 (l.length : Int) ++ encs l)) (s : Int) (i : Int) = some ([vB true], [])
  | 0, i, s, h1, h2, h3 => by omega
  | m + 1, i, s, h1, h2, h3 => by
    show f5_vestrylaw01_PlainCuts.l0.step rec n (f5_vestrylaw01_PlainCuts.l0 rec n m) (bbs l) cut true _ _ _ = _
    unfold f5_vestrylaw01_PlainCuts.l0.step
    have hel := encs_len l hf
    have hB : (be 4 (l.length : Int) ++ encs l).length = 4 + (encs l).length := by simp [be_length]
    by_cases hi : i < l.length
    · have c1 : ((i : Int) < (l.length : Int)) := by omega
      have c2 : (0 : Int) ≤ (i : Int) := by omega
      have w := wrap_nat i (by omega)
      have hd : l.drop i = l[i] :: l.drop (i + 1) := List.drop_eq_getElem_cons hi
      have hs : (encs (l.drop i)).length = 4 + l[i].length + (encs (l.drop (i + 1))).length := by
        rw [hd]
        simp only [encs, List.length_append, be_length]
        omega
      have w2 : IntKind.wrap .i64 (IntKind.wrap .i64 ((s : Int) + 4) + (l[i].length : Int)) = ((s + 4 + l[i].length : Nat) : Int) := by
        rw [wrap_in ((s : Int) + 4) (by omega) (by omega), wrap_in _ (by omega) (by omega)]; omega
      have ih := cut_loop rec n l cut hl hf hrec m (i + 1) (s + 4 + l[i].length) (by omega) (by omega) (by omega)
      simp only [c1, c2, decide_true, needB_true, bbs_length, bb_length, Int.toNat_natCast, nth_bbs hi, hasT22, toL_sl, w, w2, ih, ifB_eq, if_true]
    · have c1 : ¬ ((i : Int) < (l.length : Int)) := by omega
      have hd : l.drop i = [] := List.drop_eq_nil_of_le (by omega)
      rw [hd] at h3
      simp only [encs, List.length_nil, Nat.add_zero] at h3
      subst h3
      generalize hBe : be 4 (l.length : Int) ++ encs l = B at *
      have nz : ((((B.length : Nat) : Int) != 0) : Bool) = true := by
        have : ((B.length : Nat) : Int) ≠ 0 := by omega
        simpa using this
      obtain ⟨t1, t2⟩ := tmod_in cut B.length (by omega)
      have hcut : ∀ k, k < B.length → rec 17 [vR (B.take k)] = some ([vN (takeRowN (B.take k)).1, vI ((takeRowN (B.take k)).2.1 : Int), vI 3], []) := by
        intro k hk
        have h1 := hrec (B.take k) (by rw [List.length_take]; omega)
        have h2 := takeRow_cut l hl hf k (by rw [hBe]; exact hk)
        rw [hBe] at h2
        rw [h1, h2]
      by_cases hn : Int.tmod cut (B.length : Int) < 0
      · obtain ⟨u1, u2⟩ := t1 hn
        have w : IntKind.wrap .i64 (Int.tmod cut (B.length : Int) + (B.length : Int)) = Int.tmod cut (B.length : Int) + (B.length : Int) := by rw [IntKind.wrap_i64]; omega
        have u3 : Int.tmod cut (B.length : Int) + (B.length : Int) ≤ (B.length : Int) := by omega
        have hh := hcut (Int.toNat (Int.tmod cut (B.length : Int) + (B.length : Int))) (by omega)
        simp only [bbs_length, bb_length, c1, decide_false, ifB_eq, Bool.false_eq_true, if_false, nz, needB_true, hn, decide_true, if_true, w, u1, u3, Nat.sub_zero, List.drop_zero, bb_take, hh, callB_some, ok32, beq_self_eq_true, List.headD_cons, List.tail_cons, fvF, pvF, toI_int]
      · have u := t2 hn
        have u1 : (0 : Int) ≤ Int.tmod cut (B.length : Int) := by omega
        have u3 : Int.tmod cut (B.length : Int) ≤ (B.length : Int) := by omega
        have hh := hcut (Int.toNat (Int.tmod cut (B.length : Int))) (by omega)
        simp only [bbs_length, bb_length, c1, decide_false, ifB_eq, Bool.false_eq_true, if_false, nz, needB_true, hn, decide_true, if_true, u1, u3, Nat.sub_zero, List.drop_zero, bb_take, hh, callB_some, ok32, beq_self_eq_true, List.headD_cons, List.tail_cons, fvF, pvF, toI_int]
theorem s5 (n : Nat) (l : List (List UInt8)) (cut : Int) : pcall C (n + 4301) 5 [.flat (.val (.sl none (bbs l))), vI cut] = some ([vB true], []) := by
  rw [pcall_step (by rfl) (by rfl), f5_vestrylaw01_PlainCuts_eq]
  unfold f5_vestrylaw01_PlainCuts f5_vestrylaw01_PlainCuts.pre
  have h1 : pcall C (n + 4300) 8 [] = _ := small40 (n + 4260)
  have h2 : pcall C (n + 4300) 16 [.flat (.val (.sl none (bbs l)))] = _ := s16 (n + 100) l
  have y2 : (((2 : Int) != (0 : Int)) : Bool) = true := rfl
  have y0 : (((0 : Int) != (0 : Int)) : Bool) = false := rfl
  have z0 : ((((0 : Nat) : Int) == (0 : Int)) : Bool) = true := rfl
  unfold rowN at h2
  by_cases hl : l.length > 4096
  · rw [if_pos hl] at h2
    simp only [h1, h2, callB_some, ok4, ok2225, needB_true, List.headD_cons, List.tail_cons, fvF, pvF, toI_int, toB_bool, xsO, y2, ifB_eq, if_true, bb_length, List.length_nil, z0]
  · rw [if_neg hl] at h2
    by_cases hf : fits l
    · rw [rowGo_ok l _ hf] at h2
      have hB : (be 4 (l.length : Int) ++ encs l).length = 4 + (encs l).length := by simp [be_length]
      have c1 : ¬ (((l.length : Nat) : Int) > 4096) := by omega
      have c2 : ¬ ((((be 4 (l.length : Int) ++ encs l).length : Nat) : Int) < 4) := by omega
      have hrec : ∀ p : List UInt8, p.length ≤ 300000000 → pcall C (n + 4300) 17 [vR p] = some ([vN (takeRowN p).1, vI ((takeRowN p).2.1 : Int), vI (takeRowN p).2.2], []) := fun p hp => s17 (n + 100) p (by omega)
      have := cut_loop (pcall C (n + 4300)) (n + 4300) l cut (by omega) hf hrec (n + 4300) 0 4 (by omega) (by omega) (by rw [List.drop_zero, hB])
      simp only [h1, h2, callB_some, ok4, ok2225, needB_true, List.headD_cons, List.tail_cons, fvF, pvF, toI_int, toB_bool, xsO, y0, ifB_eq, if_true, if_false, Bool.false_eq_true, bb_length, bbs_length, c1, c2, decide_false]
      exact this
    · rw [rowGo_no l _ hf] at h2
      simp only [h1, h2, callB_some, ok4, ok2225, needB_true, List.headD_cons, List.tail_cons, fvF, pvF, toI_int, toB_bool, xsO, y2, ifB_eq, if_true, bb_length, List.length_nil, z0]
end Go.Proofs.Ythkmnomnfmjffaa

