/- What the functions answer, and the laws. -/
import Derived.Test.YthkmnomnfmjffaaSh

set_option linter.unusedVariables false

set_option linter.unusedSimpArgs false

set_option linter.unusedSectionVars false

open Go Go.Ev

set_option linter.unusedSimpArgs false

set_option linter.unusedVariables false

namespace Go.Proofs.Ythkmnomnfmjffaa

abbrev vI (n : Int) : OV := .flat (.val (.int .i64 n))
abbrev vB (b : Bool) : OV := .flat (.val (.bool b))
abbrev bb (l : List UInt8) : List PV := l.map pvByte
abbrev vO (l : List UInt8) : OV := .flat (.own none (bb l) [])
abbrev vR (l : List UInt8) : OV := .flat (.val (.sl none (bb l)))

theorem needB_true {α : Type} (x : Option α) : needB true x = x := by
  have h : ∀ b : Bool, b = true → needB b x = x := by
    intro b hb
    subst hb
    rfl
  exact h true rfl
theorem ifB_eq {α : Type} (b : Bool) (x y : Option α) : ifB b x y = if b = true then x else y := by cases b <;> rfl
theorem callB_some {α β : Type} (a : α) (k : α → Option β) : callB (some a) k = k a := by
  have h : ∀ r : Option α, r = some a → callB r k = k a := by
    intro r hr
    subst hr
    rfl
  exact h _ rfl
theorem frzM_nil (r : Option (List OV × List OV)) : frzM [] r = r := by
  cases r with
  | none => rfl
  | some r => cases r with | mk a b => simp [frzM, frzR]
theorem pcall_step {n : Nat} {f : FuncId} {args : List OV} (h : C.prim f = none) (hf : C.frz f = []) : pcall C (n + 1) f args = callBody C (pcall C n) n f args := by
  show (match C.prim f with
    | some p => p args
    | none => frzM (C.frz f) (callBody C (pcall C n) n f args)) = _
  rw [h, hf]
  exact frzM_nil _
theorem pcall_prim {n : Nat} {f : FuncId} {args : List OV} {p : List OV → Option (List OV × List OV)} (h : C.prim f = some p) : pcall C (n + 1) f args = p args := by
  show (match C.prim f with
    | some p => p args
    | none => frzM (C.frz f) (callBody C (pcall C n) n f args)) = _
  rw [h]
theorem fvF (f : FV) : OV.fv (.flat f) = f := rfl
theorem pvF (v : PV) : FV.pv (.val v) = v := rfl
theorem xsO (sh : Option Nat) (l sp : List PV) : FV.xs (.own sh l sp) = l := rfl
theorem toI_int (k : IntKind) (n : Int) : PV.toI (.int k n) = n := rfl
theorem toB_bool (b : Bool) : PV.toB (.bool b) = b := rfl
theorem toL_sl (sh : Option Nat) (b : List PV) : PV.toL (.sl sh b) = b := rfl
theorem hasT5 (b : UInt8) : hasT Go.Proofs.Try.prog 5 (pvByte b) = true := by kernel_rfl
theorem all5 (l : List UInt8) : (bb l).all (hasT Go.Proofs.Try.prog 5) = true := by
  simp [List.all_eq_true, hasT5]
theorem row22 (l : List UInt8) : okRow Go.Proofs.Try.prog 22 (bb l) [] = true := by
  have h1 : tElem Go.Proofs.Try.prog 22 = some 5 := by kernel_rfl
  unfold okRow
  rw [h1]
  dsimp only
  split
  · rw [all5]; rfl
  · rfl
theorem okO22 (l : List UInt8) : okO Go.Proofs.Try.prog 22 .o (vO l) = true := by
  have h1 : elemShape Go.Proofs.Try.prog 22 = none := by kernel_rfl
  show (shEq (elemShape Go.Proofs.Try.prog 22) none && okRow Go.Proofs.Try.prog 22 (bb l) []) = true
  rw [h1, row22]; rfl
theorem okI3 (n : Int) : okO Go.Proofs.Try.prog 3 .v (vI n) = true := by kernel_rfl
theorem okI25 (n : Int) : okO Go.Proofs.Try.prog 25 .v (vI n) = true := by kernel_rfl
theorem ok22 (l : List UInt8) : okOs Go.Proofs.Try.prog [22] [.o] [vO l] = true := by
  show (okO Go.Proofs.Try.prog 22 .o (vO l) && true) = true
  rw [okO22]; rfl
theorem ok2225 (l : List UInt8) (e : Int) : okOs Go.Proofs.Try.prog [22, 25] [.o, .v] [vO l, vI e] = true := by
  show (okO Go.Proofs.Try.prog 22 .o (vO l) && (okO Go.Proofs.Try.prog 25 .v (vI e) && true)) = true
  rw [okO22, okI25]; rfl
theorem ok22325 (l : List UInt8) (n e : Int) : okOs Go.Proofs.Try.prog [22, 3, 25] [.o, .v, .v] [vO l, vI n, vI e] = true := by
  show (okO Go.Proofs.Try.prog 22 .o (vO l) && (okO Go.Proofs.Try.prog 3 .v (vI n) && (okO Go.Proofs.Try.prog 25 .v (vI e) && true))) = true
  rw [okO22, okI25, okI3]; rfl
theorem ok4 (b : Bool) : okOs Go.Proofs.Try.prog [4] [] [vB b] = true := by kernel_rfl
theorem ok325 (n m : Int) : okOs Go.Proofs.Try.prog [3, 25] [] [vI n, vI m] = true := by kernel_rfl
theorem ok34 (n : Int) (b : Bool) : okOs Go.Proofs.Try.prog [3, 4] [] [vI n, vB b] = true := by kernel_rfl

/-- A number's bytes, the highest ahead. -/
def byteOf (z : Int) : UInt8 := UInt8.ofNat (z % 256).toNat
def be : Nat → Int → List UInt8
  | 0, _ => []
  | s + 1, n => byteOf (n / 256 ^ s) :: be s n
theorem be_length (s : Nat) (n : Int) : (be s n).length = s := by
  induction s with
  | zero => rfl
  | succ s ih => simp [be, ih]
theorem pvByte_of (z : Int) : PV.int .u8 (IntKind.wrap .u8 z) = pvByte (byteOf z) := by
  have h : IntKind.wrap .u8 z = ((z % 256).toNat : Int) := by
    simp [IntKind.wrap, IntKind.bits, IntKind.signed]
    omega
  rw [h]
  unfold pvByte byteOf
  congr 1
  have : (z % 256).toNat < 256 := by omega
  simp [UInt8.toNat_ofNat', Nat.mod_eq_of_lt this]
theorem shift_of (n : Int) (s : Nat) (hs : s ≤ 7) : Int.fdiv n ((2 : Int) ^ (min (Int.toNat (8 * (s : Int))) (IntKind.bits .i64))) = n / 256 ^ s := by
  have e1 : min (Int.toNat (8 * (s : Int))) (IntKind.bits .i64) = 8 * s := by
    show min (Int.toNat (8 * (s : Int))) 64 = 8 * s
    omega
  rw [e1, Int.pow_mul, Int.fdiv_eq_ediv_of_nonneg _ (Int.pow_nonneg (by decide))]
  rfl
end Go.Proofs.Ythkmnomnfmjffaa

open Go Go.Ev

set_option linter.unusedSimpArgs false

set_option linter.unusedVariables false

namespace Go.Proofs.Ythkmnomnfmjffaa

theorem bb_append (a b : List UInt8) : bb a ++ bb b = bb (a ++ b) := by simp [bb]
theorem bb_length (a : List UInt8) : (bb a).length = a.length := by simp [bb]
theorem put_loop (rec : Rec) (n : Nat) (x1 : Int) : ∀ (s : Nat) (l : List UInt8) (m : Nat), s ≤ 8 → s < m → l.length + s ≤ 1000000000 →
    f29_plain_put.l0 rec n m (bb l) x1 (8 * (s : Int) - 8) = some ([vO (l ++ be s x1)], [.flat .gone, .flat .gone, .flat .gone])
  | s, l, 0, hs, hm, hl => by omega
  | 0, l, m + 1, hs, hm, hl => by
    show f29_plain_put.l0.step rec n (f29_plain_put.l0 rec n m) (bb l) x1 _ = _
    unfold f29_plain_put.l0.step
    have c : ¬ (8 * ((0 : Nat) : Int) - 8 ≥ 0) := by omega
    simp only [c, decide_false, ifB_eq, Bool.false_eq_true, if_false, be, List.append_nil]
  | s + 1, l, m + 1, hs, hm, hl => by
    show f29_plain_put.l0.step rec n (f29_plain_put.l0 rec n m) (bb l) x1 _ = _
    unfold f29_plain_put.l0.step
    have e : 8 * ((s + 1 : Nat) : Int) - 8 = 8 * (s : Int) := by omega
    rw [e]
    have c : (8 * (s : Int) ≥ 0) := by omega
    have c' : ((0 : Int) ≤ 8 * (s : Int)) := by omega
    have w : IntKind.wrap .i64 (8 * (s : Int) - 8) = 8 * (s : Int) - 8 := by rw [IntKind.wrap_i64]; omega
    have ih := put_loop rec n x1 s (l ++ [byteOf (x1 / 256 ^ s)]) m (by omega) (by omega) (by simp; omega)
    have b1 : Nat.ble (((bb l).length + 1) * 1) 140737488355328 = true := by rw [Nat.ble_eq, bb_length]; omega
    have b2 : Nat.ble ((bb l).length + 1) 9223372036854775807 = true := by rw [Nat.ble_eq, bb_length]; omega
    have e3 : bb l ++ [pvByte (byteOf (x1 / 256 ^ s))] = bb (l ++ [byteOf (x1 / 256 ^ s)]) := by simp [bb]
    simp only [c, c', decide_true, needB_true, shift_of x1 s (by omega), pvByte_of, List.length_cons, List.length_nil, Nat.zero_add, b1, b2, w, e3, ih, ifB_eq, if_true, be, List.append_assoc, List.cons_append, List.nil_append]
theorem s29 (n : Nat) (l : List UInt8) (x : Int) (s : Nat) (hs : s ≤ 8) (hl : l.length ≤ 100000000) : pcall C (n + 11) 29 [vO l, vI x, vI (s : Int)] = some ([vO (l ++ be s x)], [.flat .gone, .flat .gone, .flat .gone]) := by
  rw [pcall_step (by rfl) (by rfl), f29_plain_put_eq]
  unfold f29_plain_put f29_plain_put.pre
  have w1 : IntKind.wrap .i64 ((s : Int) - 1) = (s : Int) - 1 := by rw [IntKind.wrap_i64]; omega
  have w2 : IntKind.wrap .i64 (8 * ((s : Int) - 1)) = 8 * (s : Int) - 8 := by rw [IntKind.wrap_i64]; omega
  rw [w1, w2]
  exact put_loop _ _ x s l (n + 10) hs (by omega) (by omega)
theorem s22 (n : Nat) (x : Int) : pcall C (n + 12) 22 [vI x] = some ([vO (be 8 x)], []) := by
  rw [pcall_step (by rfl) (by rfl), f22_plain_Num_eq]
  unfold f22_plain_Num
  have h : pcall C (n + 11) 29 [.flat (.own none [] []), vI x, vI 8] = _ := s29 n [] x 8 (by omega) (by simp)
  simp only [h, callB_some, List.nil_append, ok22, needB_true, List.headD_cons, fvF, xsO]
end Go.Proofs.Ythkmnomnfmjffaa

open Go Go.Ev

set_option linter.unusedSimpArgs false

set_option linter.unusedVariables false

namespace Go.Proofs.Ythkmnomnfmjffaa

theorem xor_byte (b : UInt8) : PV.int .u8 (IntKind.wrap .u8 (((BitVec.toNat ((BitVec.ofInt (IntKind.bits .u8) ((b.toNat : Nat) : Int)) ^^^ (BitVec.ofInt (IntKind.bits .u8) (128 : Int))) : Nat) : Int))) = pvByte (b ^^^ 128) := by
  have h1 : BitVec.ofInt (IntKind.bits .u8) ((b.toNat : Nat) : Int) = b.toBitVec := by
    apply BitVec.eq_of_toNat_eq
    show (BitVec.ofInt 8 ((b.toNat : Nat) : Int)).toNat = b.toNat
    rw [BitVec.toNat_ofInt]
    have := b.toNat_lt
    omega
  have h2 : BitVec.ofInt (IntKind.bits .u8) (128 : Int) = (128 : UInt8).toBitVec := rfl
  rw [h1, h2]
  have h3 : (b.toBitVec ^^^ (128 : UInt8).toBitVec).toNat = (b ^^^ 128).toNat := rfl
  have h4 := (b ^^^ 128).toNat_lt
  unfold pvByte
  congr 1
  show IntKind.wrap .u8 ((b.toBitVec ^^^ (128 : UInt8).toBitVec).toNat : Int) = _
  rw [h3]
  generalize (b ^^^ 128).toNat = k at h4 ⊢
  simp [IntKind.wrap, IntKind.bits, IntKind.signed]
  omega
def keyOf (x : Int) : List UInt8 := match be 8 x with
  | b :: r => (b ^^^ 128) :: r
  | [] => []
theorem s21 (n : Nat) (x : Int) : pcall C (n + 13) 21 [vI x] = some ([vO (keyOf x)], []) := by
  rw [pcall_step (by rfl) (by rfl), f21_plain_NumKey_eq]
  unfold f21_plain_NumKey
  have h := s22 n x
  have hk : ∃ b r, be 8 x = b :: r := ⟨_, _, rfl⟩
  obtain ⟨b, r, hb⟩ := hk
  have hkey : keyOf x = (b ^^^ 128) :: r := by unfold keyOf; rw [hb]
  have n0 : nthP (bb (b :: r)) 0 = pvByte b := rfl
  have ti : PV.toI (pvByte b) = ((b.toNat : Nat) : Int) := rfl
  have l0 : Nat.blt 0 (bb (b :: r)).length = true := by rw [Nat.blt_eq, bb_length]; simp
  have c0 : (0 : Int) < (((bb (b :: r)).length : Nat) : Int) := by rw [bb_length]; simp only [List.length_cons]; omega
  have st : List.set (bb (b :: r)) 0 (pvByte (b ^^^ 128)) = bb ((b ^^^ 128) :: r) := rfl
  rw [hb] at h
  simp only [h, callB_some, ok22, needB_true, List.headD_cons, fvF, xsO, n0, hasT5, ti, l0, c0, decide_true, xor_byte, st, hkey]
end Go.Proofs.Ythkmnomnfmjffaa

open Go Go.Ev

set_option linter.unusedSimpArgs false

set_option linter.unusedVariables false

namespace Go.Proofs.Ythkmnomnfmjffaa

def stepT (x : Int) (b : UInt8) : Int := IntKind.wrap .i64 (((BitVec.toNat ((BitVec.ofInt (IntKind.bits .i64) (IntKind.wrap .i64 (x * (2 : Int) ^ (min 8 (IntKind.bits .i64))))) ||| (BitVec.ofInt (IntKind.bits .i64) (IntKind.wrap .i64 ((b.toNat : Nat) : Int)))) : Nat) : Int))
def takeF : Int → List UInt8 → Int
  | x, [] => x
  | x, b :: r => takeF (stepT x b) r
theorem nth_bb {l : List UInt8} {i : Nat} (h : i < l.length) : nthP (bb l) i = pvByte l[i] := by
  simp [nthP, List.getD, List.getElem?_eq_getElem, h]
theorem toI_byte (b : UInt8) : PV.toI (pvByte b) = ((b.toNat : Nat) : Int) := rfl
theorem wrap_nat (i : Nat) (h : i < 9223372036854775807) : IntKind.wrap .i64 ((i : Int) + 1) = ((i + 1 : Nat) : Int) := by
  rw [IntKind.wrap_i64]; omega
theorem take_loop (rec : Rec) (n : Nat) (l : List UInt8) (hl : l.length ≤ 100) : ∀ (m i : Nat) (x : Int), l.length < m + i → i ≤ l.length →
    f34_plain_take.l0 rec n m x (bb l) (l.length : Int) (i : Int) = some ([vI (takeF x (l.drop i)), vB true], [])
  | 0, i, x, h1, h2 => by omega
  | m + 1, i, x, h1, h2 => by
    show f34_plain_take.l0.step rec n (f34_plain_take.l0 rec n m) x (bb l) _ _ = _
    unfold f34_plain_take.l0.step
    by_cases hi : i < l.length
    · have c1 : ((i : Int) < (l.length : Int)) := by omega
      have c2 : (0 : Int) ≤ (i : Int) := by omega
      have w := wrap_nat i (by omega)
      have ih := take_loop rec n l hl m (i + 1) (stepT x l[i]) (by omega) (by omega)
      have hd : l.drop i = l[i] :: l.drop (i + 1) := List.drop_eq_getElem_cons hi
      unfold stepT at ih
      simp only [c1, c2, decide_true, needB_true, bb_length, Int.toNat_natCast, nth_bb hi, hasT5, toI_byte, w, ih, ifB_eq, if_true, hd, takeF, stepT]
    · have c1 : ¬ ((i : Int) < (l.length : Int)) := by omega
      have hd : l.drop i = [] := List.drop_eq_nil_of_le (by omega)
      simp only [c1, decide_false, ifB_eq, Bool.false_eq_true, if_false, hd, takeF]
theorem bb_take (l : List UInt8) (k : Nat) : List.take k (bb l) = bb (l.take k) := by simp [bb]
theorem bb_drop (l : List UInt8) (k : Nat) : List.drop k (bb l) = bb (l.drop k) := by simp [bb]
theorem s34 (n : Nat) (l : List UInt8) (s : Nat) (hs : s ≤ 8) : pcall C (n + 11) 34 [vR l, vI (s : Int)] = some (if l.length < s then [vI 0, vB false] else [vI (takeF 0 (l.take s)), vB true], []) := by
  rw [pcall_step (by rfl) (by rfl), f34_plain_take_eq]
  unfold f34_plain_take f34_plain_take.pre
  by_cases h : l.length < s
  · have c : ((((bb l).length : Nat) : Int) < (s : Int)) := by rw [bb_length]; omega
    simp only [c, decide_true, ifB_eq, if_true, h]
  · have c : ¬ ((((bb l).length : Nat) : Int) < (s : Int)) := by rw [bb_length]; omega
    have c1 : (0 : Int) ≤ (s : Int) := by omega
    have c2 : ((s : Int) ≤ (((bb l).length : Nat) : Int)) := by rw [bb_length]; omega
    have hlen : (l.take s).length = s := by rw [List.length_take]; omega
    have := take_loop (pcall C (n + 10)) (n + 10) (l.take s) (by omega) (n + 10) 0 0 (by omega) (by omega)
    rw [bb_length] at c c2
    simp only [bb_length, c, c1, c2, decide_true, decide_false, needB_true, ifB_eq, Bool.false_eq_true, if_false, h, Int.toNat_natCast, bb_take]
    exact this
def countN (l : List UInt8) (most : Int) : Int × Int := if l.length < 4 then (0, 3) else if takeF 0 (l.take 4) > most then (0, 2) else (takeF 0 (l.take 4), 0)
theorem s30 (n : Nat) (l : List UInt8) (most : Int) : pcall C (n + 12) 30 [vR l, vI most] = some ([vI (countN l most).1, vI (countN l most).2], []) := by
  rw [pcall_step (by rfl) (by rfl), f30_plain_count_eq]
  unfold f30_plain_count countN
  have h : pcall C (n + 11) 34 [vR l, vI 4] = _ := s34 n l 4 (by omega)
  by_cases hl : l.length < 4
  · rw [if_pos hl] at h
    simp only [h, callB_some, ok34, needB_true, List.headD_cons, List.tail_cons, fvF, pvF, toI_int, toB_bool, Bool.not_false, ifB_eq, if_true, hl]
  · rw [if_neg hl] at h
    simp only [h, callB_some, ok34, needB_true, List.headD_cons, List.tail_cons, fvF, pvF, toI_int, toB_bool, Bool.not_true, ifB_eq, Bool.false_eq_true, if_false, hl]
    by_cases h2 : takeF 0 (l.take 4) > most <;> simp [h2]
end Go.Proofs.Ythkmnomnfmjffaa

open Go Go.Ev

set_option linter.unusedSimpArgs false

set_option linter.unusedVariables false

namespace Go.Proofs.Ythkmnomnfmjffaa

theorem stepT_small (x : Nat) (b : UInt8) (hx : x < 36028797018963968) : stepT (x : Int) b = ((x * 256 + b.toNat : Nat) : Int) := by
  have hb := b.toNat_lt
  unfold stepT
  have e1 : (2 : Int) ^ (min 8 (IntKind.bits .i64)) = 256 := by decide
  have e2 : IntKind.wrap .i64 ((x : Int) * 256) = ((x * 256 : Nat) : Int) := by rw [IntKind.wrap_i64]; omega
  have e3 : IntKind.wrap .i64 ((b.toNat : Nat) : Int) = ((b.toNat : Nat) : Int) := by rw [IntKind.wrap_i64]; omega
  rw [e1, e2, e3]
  have h1 : (BitVec.ofInt (IntKind.bits .i64) ((x * 256 : Nat) : Int)).toNat = x * 256 := by
    show (BitVec.ofInt 64 ((x * 256 : Nat) : Int)).toNat = _
    rw [BitVec.toNat_ofInt]; omega
  have h2 : (BitVec.ofInt (IntKind.bits .i64) ((b.toNat : Nat) : Int)).toNat = b.toNat := by
    show (BitVec.ofInt 64 ((b.toNat : Nat) : Int)).toNat = _
    rw [BitVec.toNat_ofInt]; omega
  rw [BitVec.toNat_or, h1, h2]
  have h3 : x * 256 ||| b.toNat = x * 256 + b.toNat := by
    have := Nat.shiftLeft_add_eq_or_of_lt (b := b.toNat) (i := 8) (by omega) x
    rw [Nat.shiftLeft_eq] at this
    exact this.symm
  rw [h3, IntKind.wrap_i64]
  omega
def valN : Nat → List UInt8 → Nat
  | x, [] => x
  | x, b :: r => valN (x * 256 + b.toNat) r
theorem valN_lt : ∀ (l : List UInt8) (x : Nat), valN x l < (x + 1) * 256 ^ l.length
  | [], x => by simp [valN]
  | b :: r, x => by
    have hb := b.toNat_lt
    have := valN_lt r (x * 256 + b.toNat)
    have h2 : (x * 256 + b.toNat + 1) * 256 ^ r.length ≤ ((x + 1) * 256) * 256 ^ r.length := Nat.mul_le_mul_right _ (by omega)
    simp only [valN, List.length_cons, Nat.pow_succ]
    rw [Nat.mul_comm (256 ^ r.length) 256, ← Nat.mul_assoc]
    omega
theorem takeF_small : ∀ (l : List UInt8) (x : Nat), x < 256 ^ (7 - l.length) → l.length ≤ 7 → takeF (x : Int) l = (valN x l : Int)
  | [], x, h, hl => rfl
  | b :: r, x, h, hl => by
    simp only [List.length_cons] at h hl
    have hb := b.toNat_lt
    have h7 : 256 ^ (7 - (r.length + 1)) ≤ 256 ^ 6 := Nat.pow_le_pow_right (by decide) (by omega)
    have h8 : x < 281474976710656 := Nat.lt_of_lt_of_le h h7
    simp only [takeF, valN]
    rw [stepT_small x b (by omega)]
    refine takeF_small r _ ?_ (by omega)
    have e : 7 - r.length = (7 - (r.length + 1)) + 1 := by omega
    rw [e, Nat.pow_succ]
    omega
theorem take4 (l : List UInt8) (h : 4 ≤ l.length) : takeF 0 (l.take 4) = (valN 0 (l.take 4) : Int) ∧ valN 0 (l.take 4) < 4294967296 := by
  have hl : (l.take 4).length = 4 := by rw [List.length_take]; omega
  refine ⟨takeF_small (l.take 4) 0 (by rw [hl]; decide) (by omega), ?_⟩
  have := valN_lt (l.take 4) 0
  rw [hl] at this
  simpa using this
def blobN (l : List UInt8) : List UInt8 × Int := if l.length > 65536 then ([], 2) else (be 4 (l.length : Int) ++ l, 0)
theorem s10 (n : Nat) (l : List UInt8) : pcall C (n + 12) 10 [vR l] = some ([vO (blobN l).1, vI (blobN l).2], []) := by
  rw [pcall_step (by rfl) (by rfl), f10_plain_Blob_eq]
  unfold f10_plain_Blob blobN
  have h : pcall C (n + 11) 29 [.flat (.own none [] []), vI (l.length : Int), vI 4] = _ := s29 n [] (l.length : Int) 4 (by omega) (by simp)
  by_cases hl : l.length > 65536
  · have c : (((l.length : Nat) : Int) > 65536) := by omega
    simp only [bb_length, c, decide_true, ifB_eq, if_true, hl]
    rfl
  · have c : ¬ (((l.length : Nat) : Int) > 65536) := by omega
    have b1 : Nat.ble ((4 + l.length) * 1) 140737488355328 = true := by rw [Nat.ble_eq]; omega
    have b2 : Nat.ble (4 + l.length) 9223372036854775807 = true := by rw [Nat.ble_eq]; omega
    simp only [bb_length, c, decide_false, ifB_eq, Bool.false_eq_true, if_false, hl, h, List.nil_append, callB_some, ok22, needB_true, List.headD_cons, fvF, xsO, be_length, b1, b2, bb_append]
end Go.Proofs.Ythkmnomnfmjffaa

open Go Go.Ev

set_option linter.unusedSimpArgs false

set_option linter.unusedVariables false

set_option maxHeartbeats 1000000

namespace Go.Proofs.Ythkmnomnfmjffaa

theorem isByte_bb (l : List UInt8) : (bb l).all isByte = true := by
  simp only [List.all_eq_true, List.mem_map]
  rintro x ⟨b, _, rfl⟩
  have := b.toNat_lt
  simp [pvByte, isByte]
  omega
theorem s31 (n : Nat) (l : List UInt8) (hl : l.length ≤ 140737488355328) : pcall C (n + 1) 31 [vR l] = some ([vO l], []) := by
  rw [pcall_prim (p := primClone) (by rfl)]
  have hb : Nat.ble (bb l).length 140737488355328 = true := by rw [Nat.ble_eq, bb_length]; exact hl
  have h : ((bb l).all isByte && Nat.ble (bb l).length 140737488355328) = true := by rw [isByte_bb, hb]; rfl
  unfold primClone
  dsimp only
  rw [h]
def takeBlobN (l : List UInt8) : List UInt8 × Int × Int :=
  if l.length < 4 then ([], 0, 3) else if valN 0 (l.take 4) > 65536 then ([], 0, 2) else if l.length < 4 + valN 0 (l.take 4) then ([], 0, 3)
  else ((l.drop 4).take (valN 0 (l.take 4)), ((4 + valN 0 (l.take 4) : Nat) : Int), 0)
theorem s11 (n : Nat) (l : List UInt8) (hl : l.length ≤ 9223372036854775807) : pcall C (n + 13) 11 [vR l] = some ([vO (takeBlobN l).1, vI (takeBlobN l).2.1, vI (takeBlobN l).2.2], []) := by
  rw [pcall_step (by rfl) (by rfl), f11_plain_TakeBlob_eq]
  unfold f11_plain_TakeBlob takeBlobN
  have h := s30 n l 65536
  unfold countN at h
  by_cases h4 : l.length < 4
  · rw [if_pos h4] at h
    simp only [h, callB_some, ok325, needB_true, List.headD_cons, List.tail_cons, fvF, pvF, toI_int, h4, if_true, ifB_eq, show ((3 : Int) != 0) = true from rfl]
    rfl
  · rw [if_neg h4] at h
    obtain ⟨t1, t2⟩ := take4 l (by omega)
    rw [t1] at h
    by_cases hb : valN 0 (l.take 4) > 65536
    · rw [if_pos (by omega)] at h
      simp only [h, callB_some, ok325, needB_true, List.headD_cons, List.tail_cons, fvF, pvF, toI_int, h4, hb, if_true, if_false, ifB_eq, show ((2 : Int) != 0) = true from rfl]
      rfl
    · rw [if_neg (by omega)] at h
      have w1 : IntKind.wrap .i64 ((l.length : Int) - 4) = (l.length : Int) - 4 := by rw [IntKind.wrap_i64]; omega
      have w2 : IntKind.wrap .i64 (4 + (valN 0 (l.take 4) : Int)) = ((4 + valN 0 (l.take 4) : Nat) : Int) := by rw [IntKind.wrap_i64]; omega
      simp only [h, callB_some, ok325, needB_true, List.headD_cons, List.tail_cons, fvF, pvF, toI_int, h4, hb, if_false, ifB_eq, show ((0 : Int) != 0) = false from rfl, Bool.false_eq_true, bb_length, w1, w2]
      by_cases hc : l.length < 4 + valN 0 (l.take 4)
      · have c : ((l.length : Int) - 4 < (valN 0 (l.take 4) : Int)) := by omega
        simp only [c, decide_true, if_true, hc]
        rfl
      · have c : ¬ ((l.length : Int) - 4 < (valN 0 (l.take 4) : Int)) := by omega
        have c1 : (4 : Int) ≤ ((4 + valN 0 (l.take 4) : Nat) : Int) := by omega
        have c2 : ((4 + valN 0 (l.take 4) : Nat) : Int) ≤ (l.length : Int) := by omega
        have e : List.drop 4 (List.take (4 + valN 0 (l.take 4)) l) = List.take (valN 0 (l.take 4)) (l.drop 4) := by
          rw [List.drop_take]
          congr 1
          omega
        have h31 := s31 (n + 11) (List.take (valN 0 (l.take 4)) (l.drop 4)) (by rw [List.length_take]; omega)
        simp only [c, c1, c2, decide_true, decide_false, Bool.false_eq_true, if_false, hc, needB_true, Int.toNat_natCast, bb_take, bb_drop, e, h31, callB_some, ok22, List.headD_cons, fvF, xsO]
end Go.Proofs.Ythkmnomnfmjffaa

open Go Go.Ev

set_option linter.unusedSimpArgs false

set_option linter.unusedVariables false

set_option maxHeartbeats 1000000

namespace Go.Proofs.Ythkmnomnfmjffaa

abbrev bbs (l : List (List UInt8)) : List PV := l.map fun p => PV.sl none (bb p)
theorem bbs_length (l : List (List UInt8)) : (bbs l).length = l.length := by simp [bbs]
theorem hasT22 (p : List UInt8) : hasT Go.Proofs.Try.prog 22 (.sl none (bb p)) = true := by kernel_rfl
theorem nth_bbs {l : List (List UInt8)} {i : Nat} (h : i < l.length) : nthP (bbs l) i = .sl none (bb l[i]) := by
  simp [nthP, List.getD, List.getElem?_eq_getElem, h]
def rowGo : List UInt8 → List (List UInt8) → List UInt8 × Int
  | out, [] => (out, 0)
  | out, p :: r => if (blobN p).2 = 0 then rowGo (out ++ (blobN p).1) r else ([], (blobN p).2)
def rowN (l : List (List UInt8)) : List UInt8 × Int := if l.length > 4096 then ([], 2) else rowGo (be 4 (l.length : Int)) l
theorem blob_len (p : List UInt8) : (blobN p).1.length ≤ 65540 := by
  unfold blobN
  split
  · simp
  · simp [be_length]; omega
theorem row_loop (rec : Rec) (n : Nat) (l : List (List UInt8)) (hl : l.length ≤ 4096) (hrec : ∀ p : List UInt8, rec 10 [vR p] = some ([vO (blobN p).1, vI (blobN p).2], [])) : ∀ (m i : Nat) (out : List UInt8), l.length < m + i → i ≤ l.length → out.length ≤ 4 + 65540 * i →
    f16_plain_Row.l0 rec n m (bb out) (bbs l) (l.length : Int) (i : Int) = some ([vO (rowGo out (l.drop i)).1, vI (rowGo out (l.drop i)).2], [])
  | 0, i, out, h1, h2, h3 => by omega
  | m + 1, i, out, h1, h2, h3 => by
    show f16_plain_Row.l0.step rec n (f16_plain_Row.l0 rec n m) (bb out) (bbs l) _ _ = _
    unfold f16_plain_Row.l0.step
    by_cases hi : i < l.length
    · have c1 : ((i : Int) < (l.length : Int)) := by omega
      have c2 : (0 : Int) ≤ (i : Int) := by omega
      have w := wrap_nat i (by omega)
      have hbl := blob_len l[i]
      have ih := row_loop rec n l hl hrec m (i + 1) (out ++ (blobN l[i]).1) (by omega) (by omega) (by simp; omega)
      have hd : l.drop i = l[i] :: l.drop (i + 1) := List.drop_eq_getElem_cons hi
      have b1 : Nat.ble ((out.length + (blobN l[i]).1.length) * 1) 140737488355328 = true := by rw [Nat.ble_eq]; omega
      have b2 : Nat.ble (out.length + (blobN l[i]).1.length) 9223372036854775807 = true := by rw [Nat.ble_eq]; omega
      simp only [c1, c2, decide_true, needB_true, bbs_length, bb_length, Int.toNat_natCast, nth_bbs hi, hasT22, toL_sl, hrec, callB_some, ok2225, List.headD_cons, List.tail_cons, fvF, pvF, toI_int, xsO, b1, b2, bb_append, w, ih, ifB_eq, if_true, hd, rowGo]
      by_cases h0 : (blobN l[i]).2 = 0
      · simp only [h0, bne_self_eq_false, Bool.false_eq_true, if_false, if_true]
      · have : ((blobN l[i]).2 != 0) = true := by simpa using h0
        simp only [this, h0, if_true, if_false]
        rfl
    · have c1 : ¬ ((i : Int) < (l.length : Int)) := by omega
      have hd : l.drop i = [] := List.drop_eq_nil_of_le (by omega)
      simp only [c1, decide_false, ifB_eq, Bool.false_eq_true, if_false, hd, rowGo]
theorem s16 (n : Nat) (l : List (List UInt8)) : pcall C (n + 4200) 16 [.flat (.val (.sl none (bbs l)))] = some ([vO (rowN l).1, vI (rowN l).2], []) := by
  rw [pcall_step (by rfl) (by rfl), f16_plain_Row_eq]
  unfold f16_plain_Row f16_plain_Row.pre rowN
  have h : pcall C (n + 4199) 29 [.flat (.own none [] []), vI (l.length : Int), vI 4] = _ := s29 (n + 4188) [] (l.length : Int) 4 (by omega) (by simp)
  by_cases hl : l.length > 4096
  · have c : ((l.length : Int) > 4096) := by omega
    simp only [bbs_length, c, decide_true, ifB_eq, if_true, hl]
    rfl
  · have c : ¬ ((l.length : Int) > 4096) := by omega
    have hrec : ∀ p : List UInt8, pcall C (n + 4199) 10 [vR p] = some ([vO (blobN p).1, vI (blobN p).2], []) := fun p => s10 (n + 4187) p
    have := row_loop (pcall C (n + 4199)) (n + 4199) l (by omega) hrec (n + 4199) 0 (be 4 (l.length : Int)) (by omega) (by omega) (by rw [be_length]; omega)
    simp only [bbs_length, c, decide_false, ifB_eq, Bool.false_eq_true, if_false, hl, h, List.nil_append, callB_some, ok22, needB_true, List.headD_cons, fvF, xsO]
    exact this
end Go.Proofs.Ythkmnomnfmjffaa

open Go Go.Ev

set_option linter.unusedSimpArgs false

set_option linter.unusedVariables false

set_option maxHeartbeats 1000000

namespace Go.Proofs.Ythkmnomnfmjffaa

abbrev nn (l : List (List UInt8)) : List FV := l.map fun p => FV.own none (bb p) []
abbrev vN (l : List (List UInt8)) : OV := .flat (.val (.sl none (bbs l)))
theorem ok32 (l : List (List UInt8)) (n e : Int) : okOs Go.Proofs.Try.prog [32, 3, 25] [.v, .v, .v] [vN l, vI n, vI e] = true := by kernel_rfl
def takeRowGo : Nat → List UInt8 → Nat → List (List UInt8) → List (List UInt8) × Nat × Int
  | 0, _, p, acc => (acc, p, 0)
  | k + 1, l, p, acc => if (takeBlobN (l.drop p)).2.2 = 0 then takeRowGo k l (p + (takeBlobN (l.drop p)).2.1.toNat) (acc ++ [(takeBlobN (l.drop p)).1]) else ([], 0, (takeBlobN (l.drop p)).2.2)
def takeRowN (l : List UInt8) : List (List UInt8) × Nat × Int :=
  if l.length < 4 then ([], 0, 3) else if valN 0 (l.take 4) > 4096 then ([], 0, 2) else takeRowGo (valN 0 (l.take 4)) l 4 []
theorem takeBlob_used (l : List UInt8) (h : (takeBlobN l).2.2 = 0) : 0 ≤ (takeBlobN l).2.1 ∧ (takeBlobN l).2.1.toNat ≤ l.length := by
  unfold takeBlobN at h ⊢
  by_cases h1 : l.length < 4
  · simp [h1] at h
  · by_cases h2 : valN 0 (l.take 4) > 65536
    · simp [h1, h2] at h
    · by_cases h3 : l.length < 4 + valN 0 (l.take 4)
      · simp [h1, h2, h3] at h
      · rw [if_neg h1, if_neg h2, if_neg h3]
        dsimp only
        omega
theorem ok223 (l : List UInt8) (n e : Int) : okOs Go.Proofs.Try.prog [22, 3, 25] [.o, .v, .v] [vO l, vI n, vI e] = true := ok22325 l n e
theorem takeRow_loop (rec : Rec) (n : Nat) (l : List UInt8) (hl : l.length ≤ 4611686018427387904) (hrec : ∀ p : List UInt8, p.length ≤ l.length → rec 11 [vR p] = some ([vO (takeBlobN p).1, vI (takeBlobN p).2.1, vI (takeBlobN p).2.2], [])) : ∀ (k m i p : Nat) (acc : List (List UInt8)), k < m → i + k ≤ 4096 → p ≤ l.length → acc.length ≤ i →
    f17_plain_TakeRow.l0 rec n m (bb l) (p : Int) (nn acc) ((i + k : Nat) : Int) (i : Int) = some ([.cont .nest (nn (takeRowGo k l p acc).1), vI ((takeRowGo k l p acc).2.1 : Int), vI (takeRowGo k l p acc).2.2], [])
  | k, 0, i, p, acc, h1, h2, h3, h4 => by omega
  | 0, m + 1, i, p, acc, h1, h2, h3, h4 => by
    show f17_plain_TakeRow.l0.step rec n (f17_plain_TakeRow.l0 rec n m) (bb l) _ (nn acc) _ _ = _
    unfold f17_plain_TakeRow.l0.step
    have c1 : ¬ ((i : Int) < ((i + 0 : Nat) : Int)) := by omega
    simp only [c1, decide_false, ifB_eq, Bool.false_eq_true, if_false, takeRowGo]
  | k + 1, m + 1, i, p, acc, h1, h2, h3, h4 => by
    show f17_plain_TakeRow.l0.step rec n (f17_plain_TakeRow.l0 rec n m) (bb l) _ (nn acc) _ _ = _
    unfold f17_plain_TakeRow.l0.step
    have c1 : ((i : Int) < ((i + (k + 1) : Nat) : Int)) := by omega
    have c2 : (0 : Int) ≤ (p : Int) := by omega
    have c3 : (p : Int) ≤ (l.length : Int) := by omega
    have w := wrap_nat i (by omega)
    have hr := hrec (l.drop p) (by simp)
    have hu := takeBlob_used (l.drop p)
    rw [List.length_drop] at hu
    have b1 : Nat.ble ((acc.length + 1) * 24) 140737488355328 = true := by rw [Nat.ble_eq]; omega
    have b2 : Nat.ble (acc.length + 1) 9223372036854775807 = true := by rw [Nat.ble_eq]; omega
    have ln : (nn acc).length = acc.length := by simp [nn]
    simp only [c1, c2, c3, decide_true, needB_true, bb_length, Int.toNat_natCast, bb_drop, hr, callB_some, ok223, List.headD_cons, List.tail_cons, fvF, pvF, toI_int, xsO, ifB_eq, if_true, List.length_cons, List.length_nil, Nat.zero_add, ln, b1, b2, w]
    by_cases h0 : (takeBlobN (l.drop p)).2.2 = 0
    · obtain ⟨u1, u2⟩ := hu h0
      have w2 : IntKind.wrap .i64 ((p : Int) + (takeBlobN (l.drop p)).2.1) = ((p + (takeBlobN (l.drop p)).2.1.toNat : Nat) : Int) := by rw [IntKind.wrap_i64]; omega
      have e1 : ((i + (k + 1) : Nat) : Int) = (((i + 1) + k : Nat) : Int) := by omega
      have e2 : nn acc ++ [FV.own none (bb (takeBlobN (l.drop p)).1) []] = nn (acc ++ [(takeBlobN (l.drop p)).1]) := by simp [nn]
      have ih := takeRow_loop rec n l hl hrec k m (i + 1) (p + (takeBlobN (l.drop p)).2.1.toNat) (acc ++ [(takeBlobN (l.drop p)).1]) (by omega) (by omega) (by omega) (by simp; omega)
      simp only [h0, bne_self_eq_false, Bool.false_eq_true, if_false, takeRowGo, if_true, w2, e1, e2, ih]
    · have : ((takeBlobN (l.drop p)).2.2 != 0) = true := by simpa using h0
      simp only [this, h0, if_true, if_false, takeRowGo]
      rfl
theorem frz_nest (l : List (List UInt8)) (a b : OV) : frzR [true] [.cont .nest (nn l), a, b] = [vN l, a, b] := by
  simp [frzR, OV.pv, OV.whole, OV.frz, nn, List.map_map, Function.comp_def, FV.frz]
theorem s17 (n : Nat) (l : List UInt8) (hl : l.length ≤ 4611686018427387904) : pcall C (n + 4200) 17 [vR l] = some ([.cont .nest (nn (takeRowN l).1), vI ((takeRowN l).2.1 : Int), vI (takeRowN l).2.2], []) := by
  have key : callBody C (pcall C (n + 4199)) (n + 4199) 17 [vR l] = some ([.cont .nest (nn (takeRowN l).1), vI ((takeRowN l).2.1 : Int), vI (takeRowN l).2.2], []) := by
    rw [f17_plain_TakeRow_eq]
    unfold f17_plain_TakeRow f17_plain_TakeRow.pre takeRowN
    have h : pcall C (n + 4199) 30 [vR l, vI 4096] = _ := s30 (n + 4187) l 4096
    unfold countN at h
    by_cases h4 : l.length < 4
    · rw [if_pos h4] at h
      simp only [h, callB_some, ok325, needB_true, List.headD_cons, List.tail_cons, fvF, pvF, toI_int, h4, if_true, ifB_eq, show ((3 : Int) != 0) = true from rfl]
      rfl
    · rw [if_neg h4] at h
      obtain ⟨t1, t2⟩ := take4 l (by omega)
      rw [t1] at h
      by_cases hb : valN 0 (l.take 4) > 4096
      · rw [if_pos (by omega)] at h
        simp only [h, callB_some, ok325, needB_true, List.headD_cons, List.tail_cons, fvF, pvF, toI_int, h4, hb, if_true, if_false, ifB_eq, show ((2 : Int) != 0) = true from rfl]
        rfl
      · rw [if_neg (by omega)] at h
        have hrec : ∀ p : List UInt8, p.length ≤ l.length → pcall C (n + 4199) 11 [vR p] = some ([vO (takeBlobN p).1, vI (takeBlobN p).2.1, vI (takeBlobN p).2.2], []) := fun p hp => s11 (n + 4186) p (by omega)
        have := takeRow_loop (pcall C (n + 4199)) (n + 4199) l hl hrec (valN 0 (l.take 4)) (n + 4199) 0 4 [] (by omega) (by omega) (by omega) (by simp)
        rw [Nat.zero_add] at this
        simp only [h, callB_some, ok325, needB_true, List.headD_cons, List.tail_cons, fvF, pvF, toI_int, h4, hb, if_false, ifB_eq, show ((0 : Int) != 0) = false from rfl, Bool.false_eq_true]
        exact this
  rw [pcall_step (by rfl) (by rfl)]
  exact key
end Go.Proofs.Ythkmnomnfmjffaa

open Go Go.Ev

set_option linter.unusedSimpArgs false

set_option linter.unusedVariables false

set_option maxHeartbeats 1000000

namespace Go.Proofs.Ythkmnomnfmjffaa

theorem ok_22 (l : List UInt8) : okOs Go.Proofs.Try.prog [22] [.o] [vO l] = true := ok22 l
theorem ok_3 (n : Int) : okOs Go.Proofs.Try.prog [3] [] [vI n] = true := by kernel_rfl
theorem s32 (n : Nat) (a : Nat) (ha : a < 4294967296) : pcall C (n + 1) 32 [vI (a : Int)] = some ([vO (be 4 (a : Int))], []) := by
  rw [pcall_step (by rfl) (by rfl), f32_vestryref01_four_eq]
  unfold f32_vestryref01_four
  have e1 : IntKind.wrap .i64 (Int.tdiv (a : Int) 16777216) = (a : Int) / 256 ^ 3 := by
    rw [IntKind.wrap_i64, Int.tdiv_eq_ediv_of_nonneg (by omega)]; omega
  have e2 : IntKind.wrap .i64 (Int.tdiv (a : Int) 65536) = (a : Int) / 256 ^ 2 := by
    rw [IntKind.wrap_i64, Int.tdiv_eq_ediv_of_nonneg (by omega)]; omega
  have e3 : IntKind.wrap .i64 (Int.tdiv (a : Int) 256) = (a : Int) / 256 ^ 1 := by
    rw [IntKind.wrap_i64, Int.tdiv_eq_ediv_of_nonneg (by omega)]; omega
  have e4 : (a : Int) / 256 ^ 0 = (a : Int) := by simp
  rw [e1, e2, e3]
  simp only [pvByte_of, be, e4, bb, List.map_cons, List.map_nil]
  rfl
theorem wrap_in (z : Int) (h0 : 0 ≤ z) (h1 : z < 9223372036854775808) : IntKind.wrap .i64 z = z := by
  rw [IntKind.wrap_i64]; omega
theorem four_list {l : List UInt8} (h : 4 ≤ l.length) : ∃ a b c d r, l = a :: b :: c :: d :: r := by
  match l, h with
  | a :: b :: c :: d :: r, _ => exact ⟨a, b, c, d, r, rfl⟩
theorem s33 (n : Nat) (l : List UInt8) (h : 4 ≤ l.length) : pcall C (n + 1) 33 [vR l] = some ([vI (valN 0 (l.take 4) : Int)], []) := by
  rw [pcall_step (by rfl) (by rfl), f33_vestryref01_count_eq]
  unfold f33_vestryref01_count
  obtain ⟨a, b, c, d, r, rfl⟩ := four_list h
  have c0 : ((0 : Int) < (((bb (a :: b :: c :: d :: r)).length : Nat) : Int)) := by rw [bb_length]; simp only [List.length_cons]; omega
  have c1 : ((1 : Int) < (((bb (a :: b :: c :: d :: r)).length : Nat) : Int)) := by rw [bb_length]; simp only [List.length_cons]; omega
  have c2 : ((2 : Int) < (((bb (a :: b :: c :: d :: r)).length : Nat) : Int)) := by rw [bb_length]; simp only [List.length_cons]; omega
  have c3 : ((3 : Int) < (((bb (a :: b :: c :: d :: r)).length : Nat) : Int)) := by rw [bb_length]; simp only [List.length_cons]; omega
  have n0 : nthP (bb (a :: b :: c :: d :: r)) 0 = pvByte a := rfl
  have n1 : nthP (bb (a :: b :: c :: d :: r)) 1 = pvByte b := rfl
  have n2 : nthP (bb (a :: b :: c :: d :: r)) 2 = pvByte c := rfl
  have n3 : nthP (bb (a :: b :: c :: d :: r)) 3 = pvByte d := rfl
  simp only [c0, c1, c2, c3, n0, n1, n2, n3, decide_true, needB_true, hasT5, toI_byte]
  have ha := a.toNat_lt
  have hb := b.toNat_lt
  have hc := c.toNat_lt
  have hd := d.toNat_lt
  have e : valN 0 ((a :: b :: c :: d :: r).take 4) = ((a.toNat * 256 + b.toNat) * 256 + c.toNat) * 256 + d.toNat := by simp [valN]
  rw [e]
  rw [wrap_in (a.toNat : Int) (by omega) (by omega), wrap_in (b.toNat : Int) (by omega) (by omega), wrap_in (c.toNat : Int) (by omega) (by omega), wrap_in (d.toNat : Int) (by omega) (by omega)]
  rw [wrap_in ((a.toNat : Int) * 16777216) (by omega) (by omega), wrap_in ((b.toNat : Int) * 65536) (by omega) (by omega), wrap_in ((c.toNat : Int) * 256) (by omega) (by omega)]
  rw [wrap_in ((a.toNat : Int) * 16777216 + (b.toNat : Int) * 65536) (by omega) (by omega), wrap_in ((a.toNat : Int) * 16777216 + (b.toNat : Int) * 65536 + (c.toNat : Int) * 256) (by omega) (by omega), wrap_in _ (by omega) (by omega)]
  refine congrArg (fun z : Int => some ([vI z], [])) ?_
  omega
theorem s12 (n : Nat) (l : List UInt8) : pcall C (n + 2) 12 [vR l] = some ([vO (blobN l).1, vI (blobN l).2], []) := by
  rw [pcall_step (by rfl) (by rfl), f12_vestryref01_Blob_eq]
  unfold f12_vestryref01_Blob blobN
  by_cases hl : l.length > 65536
  · have c : (((l.length : Nat) : Int) > 65536) := by omega
    simp only [bb_length, c, decide_true, ifB_eq, if_true, hl]
    rfl
  · have c : ¬ (((l.length : Nat) : Int) > 65536) := by omega
    have h := s32 n l.length (by omega)
    have b1 : Nat.ble ((4 + l.length) * 1) 140737488355328 = true := by rw [Nat.ble_eq]; omega
    have b2 : Nat.ble (4 + l.length) 9223372036854775807 = true := by rw [Nat.ble_eq]; omega
    simp only [bb_length, c, decide_false, ifB_eq, Bool.false_eq_true, if_false, hl, h, List.nil_append, callB_some, ok22, needB_true, List.headD_cons, fvF, xsO, be_length, b1, b2, bb_append]
theorem s13 (n : Nat) (l : List UInt8) (hl : l.length ≤ 9223372036854775807) : pcall C (n + 2) 13 [vR l] = some ([vO (takeBlobN l).1, vI (takeBlobN l).2.1, vI (takeBlobN l).2.2], []) := by
  rw [pcall_step (by rfl) (by rfl), f13_vestryref01_TakeBlob_eq]
  unfold f13_vestryref01_TakeBlob takeBlobN
  by_cases h4 : l.length < 4
  · have c : (((l.length : Nat) : Int) < 4) := by omega
    simp only [bb_length, c, decide_true, ifB_eq, if_true, h4]
    rfl
  · have c : ¬ (((l.length : Nat) : Int) < 4) := by omega
    have h := s33 n l (by omega)
    obtain ⟨_, t2⟩ := take4 l (by omega)
    simp only [bb_length, c, decide_false, ifB_eq, Bool.false_eq_true, if_false, h4, h, callB_some, ok_3, needB_true, List.headD_cons, fvF, pvF, toI_int]
    by_cases hb : valN 0 (l.take 4) > 65536
    · have c : ((valN 0 (l.take 4) : Int) > 65536) := by omega
      simp only [c, decide_true, if_true, hb]
      rfl
    · have c : ¬ ((valN 0 (l.take 4) : Int) > 65536) := by omega
      have w1 : IntKind.wrap .i64 ((l.length : Int) - 4) = (l.length : Int) - 4 := by rw [IntKind.wrap_i64]; omega
      have w2 : IntKind.wrap .i64 (4 + (valN 0 (l.take 4) : Int)) = ((4 + valN 0 (l.take 4) : Nat) : Int) := by rw [IntKind.wrap_i64]; omega
      simp only [c, decide_false, Bool.false_eq_true, if_false, hb, w1, w2]
      by_cases hc : l.length < 4 + valN 0 (l.take 4)
      · have c : ((l.length : Int) - 4 < (valN 0 (l.take 4) : Int)) := by omega
        simp only [c, decide_true, if_true, hc]
        rfl
      · have c : ¬ ((l.length : Int) - 4 < (valN 0 (l.take 4) : Int)) := by omega
        have c1 : (4 : Int) ≤ ((4 + valN 0 (l.take 4) : Nat) : Int) := by omega
        have c2 : ((4 + valN 0 (l.take 4) : Nat) : Int) ≤ (l.length : Int) := by omega
        have e : List.drop 4 (List.take (4 + valN 0 (l.take 4)) l) = List.take (valN 0 (l.take 4)) (l.drop 4) := by
          rw [List.drop_take]
          congr 1
          omega
        have el : (List.take (valN 0 (l.take 4)) (l.drop 4)).length ≤ 65536 := by rw [List.length_take]; omega
        have b1 : Nat.ble ((0 + (List.take (valN 0 (l.take 4)) (l.drop 4)).length) * 1) 140737488355328 = true := by rw [Nat.ble_eq]; omega
        have b2 : Nat.ble (0 + (List.take (valN 0 (l.take 4)) (l.drop 4)).length) 9223372036854775807 = true := by rw [Nat.ble_eq]; omega
        simp only [c, c1, c2, decide_true, decide_false, Bool.false_eq_true, if_false, hc, needB_true, Int.toNat_natCast, bb_take, bb_drop, e, List.length_nil, bb_length, b1, b2, List.nil_append]
end Go.Proofs.Ythkmnomnfmjffaa

open Go Go.Ev

set_option linter.unusedSimpArgs false

set_option linter.unusedVariables false

set_option maxHeartbeats 1000000

namespace Go.Proofs.Ythkmnomnfmjffaa

theorem rrow_loop (rec : Rec) (n : Nat) (l : List (List UInt8)) (hl : l.length ≤ 4096) (hrec : ∀ p : List UInt8, rec 12 [vR p] = some ([vO (blobN p).1, vI (blobN p).2], [])) : ∀ (m i : Nat) (out : List UInt8), l.length < m + i → i ≤ l.length → out.length ≤ 4 + 65540 * i →
    f18_vestryref01_Row.l0 rec n m (bbs l) (bb out) (i : Int) = some ([vO (rowGo out (l.drop i)).1, vI (rowGo out (l.drop i)).2], [])
  | 0, i, out, h1, h2, h3 => by omega
  | m + 1, i, out, h1, h2, h3 => by
    show f18_vestryref01_Row.l0.step rec n (f18_vestryref01_Row.l0 rec n m) (bbs l) (bb out) _ = _
    unfold f18_vestryref01_Row.l0.step
    by_cases hi : i < l.length
    · have c1 : ((i : Int) < (l.length : Int)) := by omega
      have c2 : (0 : Int) ≤ (i : Int) := by omega
      have w := wrap_nat i (by omega)
      have hbl := blob_len l[i]
      have ih := rrow_loop rec n l hl hrec m (i + 1) (out ++ (blobN l[i]).1) (by omega) (by omega) (by simp; omega)
      have hd : l.drop i = l[i] :: l.drop (i + 1) := List.drop_eq_getElem_cons hi
      have b1 : Nat.ble ((out.length + (blobN l[i]).1.length) * 1) 140737488355328 = true := by rw [Nat.ble_eq]; omega
      have b2 : Nat.ble (out.length + (blobN l[i]).1.length) 9223372036854775807 = true := by rw [Nat.ble_eq]; omega
      simp only [c1, c2, decide_true, needB_true, bbs_length, bb_length, Int.toNat_natCast, nth_bbs hi, hasT22, toL_sl, hrec, callB_some, ok2225, List.headD_cons, List.tail_cons, fvF, pvF, toI_int, xsO, b1, b2, bb_append, w, ih, ifB_eq, if_true, hd, rowGo]
      by_cases h0 : (blobN l[i]).2 = 0
      · simp only [h0, bne_self_eq_false, Bool.false_eq_true, if_false, if_true]
      · have : ((blobN l[i]).2 != 0) = true := by simpa using h0
        simp only [this, h0, if_true, if_false]
        rfl
    · have c1 : ¬ ((i : Int) < (l.length : Int)) := by omega
      have hd : l.drop i = [] := List.drop_eq_nil_of_le (by omega)
      simp only [bbs_length, c1, decide_false, ifB_eq, Bool.false_eq_true, if_false, hd, rowGo]
theorem s18 (n : Nat) (l : List (List UInt8)) : pcall C (n + 4200) 18 [.flat (.val (.sl none (bbs l)))] = some ([vO (rowN l).1, vI (rowN l).2], []) := by
  rw [pcall_step (by rfl) (by rfl), f18_vestryref01_Row_eq]
  unfold f18_vestryref01_Row f18_vestryref01_Row.pre rowN
  by_cases hl : l.length > 4096
  · have c : ((l.length : Int) > 4096) := by omega
    simp only [bbs_length, c, decide_true, ifB_eq, if_true, hl]
    rfl
  · have c : ¬ ((l.length : Int) > 4096) := by omega
    have h : pcall C (n + 4199) 32 [vI (l.length : Int)] = _ := s32 (n + 4198) l.length (by omega)
    have hrec : ∀ p : List UInt8, pcall C (n + 4199) 12 [vR p] = some ([vO (blobN p).1, vI (blobN p).2], []) := fun p => s12 (n + 4197) p
    have := rrow_loop (pcall C (n + 4199)) (n + 4199) l (by omega) hrec (n + 4199) 0 (be 4 (l.length : Int)) (by omega) (by omega) (by rw [be_length]; omega)
    simp only [bbs_length, c, decide_false, ifB_eq, Bool.false_eq_true, if_false, hl, h, List.nil_append, callB_some, ok22, needB_true, List.headD_cons, fvF, xsO]
    exact this
theorem rtakeRow_loop (rec : Rec) (n : Nat) (l : List UInt8) (hl : l.length ≤ 4611686018427387904) (hrec : ∀ p : List UInt8, p.length ≤ l.length → rec 13 [vR p] = some ([vO (takeBlobN p).1, vI (takeBlobN p).2.1, vI (takeBlobN p).2.2], [])) : ∀ (k m i p : Nat) (acc : List (List UInt8)), k < m → i + k ≤ 4096 → p ≤ l.length → acc.length ≤ i →
    f19_vestryref01_TakeRow.l0 rec n m (bb l) ((i + k : Nat) : Int) (p : Int) (nn acc) (i : Int) = some ([.cont .nest (nn (takeRowGo k l p acc).1), vI ((takeRowGo k l p acc).2.1 : Int), vI (takeRowGo k l p acc).2.2], [])
  | k, 0, i, p, acc, h1, h2, h3, h4 => by omega
  | 0, m + 1, i, p, acc, h1, h2, h3, h4 => by
    show f19_vestryref01_TakeRow.l0.step rec n (f19_vestryref01_TakeRow.l0 rec n m) (bb l) _ _ (nn acc) _ = _
    unfold f19_vestryref01_TakeRow.l0.step
    have c1 : ¬ ((i : Int) < ((i + 0 : Nat) : Int)) := by omega
    simp only [c1, decide_false, ifB_eq, Bool.false_eq_true, if_false, takeRowGo]
  | k + 1, m + 1, i, p, acc, h1, h2, h3, h4 => by
    show f19_vestryref01_TakeRow.l0.step rec n (f19_vestryref01_TakeRow.l0 rec n m) (bb l) _ _ (nn acc) _ = _
    unfold f19_vestryref01_TakeRow.l0.step
    have c1 : ((i : Int) < ((i + (k + 1) : Nat) : Int)) := by omega
    have c2 : (0 : Int) ≤ (p : Int) := by omega
    have c3 : (p : Int) ≤ (l.length : Int) := by omega
    have w := wrap_nat i (by omega)
    have hr := hrec (l.drop p) (by simp)
    have hu := takeBlob_used (l.drop p)
    rw [List.length_drop] at hu
    have b1 : Nat.ble ((acc.length + 1) * 24) 140737488355328 = true := by rw [Nat.ble_eq]; omega
    have b2 : Nat.ble (acc.length + 1) 9223372036854775807 = true := by rw [Nat.ble_eq]; omega
    have ln : (nn acc).length = acc.length := by simp [nn]
    simp only [c1, c2, c3, decide_true, needB_true, bb_length, Int.toNat_natCast, bb_drop, hr, callB_some, ok223, List.headD_cons, List.tail_cons, fvF, pvF, toI_int, xsO, ifB_eq, if_true, List.length_cons, List.length_nil, Nat.zero_add, ln, b1, b2, w]
    by_cases h0 : (takeBlobN (l.drop p)).2.2 = 0
    · obtain ⟨u1, u2⟩ := hu h0
      have w2 : IntKind.wrap .i64 ((p : Int) + (takeBlobN (l.drop p)).2.1) = ((p + (takeBlobN (l.drop p)).2.1.toNat : Nat) : Int) := by rw [IntKind.wrap_i64]; omega
      have e1 : ((i + (k + 1) : Nat) : Int) = (((i + 1) + k : Nat) : Int) := by omega
      have e2 : nn acc ++ [FV.own none (bb (takeBlobN (l.drop p)).1) []] = nn (acc ++ [(takeBlobN (l.drop p)).1]) := by simp [nn]
      have ih := rtakeRow_loop rec n l hl hrec k m (i + 1) (p + (takeBlobN (l.drop p)).2.1.toNat) (acc ++ [(takeBlobN (l.drop p)).1]) (by omega) (by omega) (by omega) (by simp; omega)
      simp only [h0, bne_self_eq_false, Bool.false_eq_true, if_false, takeRowGo, if_true, w2, e1, e2, ih]
    · have : ((takeBlobN (l.drop p)).2.2 != 0) = true := by simpa using h0
      simp only [this, h0, if_true, if_false, takeRowGo]
      rfl
theorem s19 (n : Nat) (l : List UInt8) (hl : l.length ≤ 4611686018427387904) : pcall C (n + 4200) 19 [vR l] = some ([vN (takeRowN l).1, vI ((takeRowN l).2.1 : Int), vI (takeRowN l).2.2], []) := by
  have key : callBody C (pcall C (n + 4199)) (n + 4199) 19 [vR l] = some ([.cont .nest (nn (takeRowN l).1), vI ((takeRowN l).2.1 : Int), vI (takeRowN l).2.2], []) := by
    rw [f19_vestryref01_TakeRow_eq]
    unfold f19_vestryref01_TakeRow f19_vestryref01_TakeRow.pre takeRowN
    by_cases h4 : l.length < 4
    · have c : ((l.length : Int) < 4) := by omega
      simp only [bb_length, c, decide_true, ifB_eq, if_true, h4]
      rfl
    · have c : ¬ ((l.length : Int) < 4) := by omega
      have h : pcall C (n + 4199) 33 [vR l] = _ := s33 (n + 4198) l (by omega)
      obtain ⟨_, t2⟩ := take4 l (by omega)
      simp only [bb_length, c, decide_false, ifB_eq, Bool.false_eq_true, if_false, h4, h, callB_some, ok_3, needB_true, List.headD_cons, fvF, pvF, toI_int]
      by_cases hb : valN 0 (l.take 4) > 4096
      · have c : ((valN 0 (l.take 4) : Int) > 4096) := by omega
        simp only [c, decide_true, if_true, hb]
        rfl
      · have c : ¬ ((valN 0 (l.take 4) : Int) > 4096) := by omega
        have hrec : ∀ p : List UInt8, p.length ≤ l.length → pcall C (n + 4199) 13 [vR p] = some ([vO (takeBlobN p).1, vI (takeBlobN p).2.1, vI (takeBlobN p).2.2], []) := fun p hp => s13 (n + 4197) p (by omega)
        have := rtakeRow_loop (pcall C (n + 4199)) (n + 4199) l hl hrec (valN 0 (l.take 4)) (n + 4199) 0 4 [] (by omega) (by omega) (by omega) (by simp)
        rw [Nat.zero_add] at this
        simp only [c, decide_false, Bool.false_eq_true, if_false, hb]
        exact this
  show frzM (C.frz 19) (callBody C (pcall C (n + 4199)) (n + 4199) 19 [vR l]) = _
  rw [key]
  show some (frzR [true] _, _) = _
  rw [frz_nest]
end Go.Proofs.Ythkmnomnfmjffaa

open Go Go.Ev

set_option linter.unusedSimpArgs false

set_option linter.unusedVariables false

set_option maxHeartbeats 4000000

set_option maxRecDepth 10000

namespace Go.Proofs.Ythkmnomnfmjffaa

abbrev vLent (l : List UInt8) : OV := .flat (.own none (bb l) [.int .u8 77])
theorem s9 (n : Nat) (l : List UInt8) (hl : l.length + 1 ≤ 140737488355328) : pcall C (n + 1) 9 [vR l] = some ([vLent l], []) := by
  rw [pcall_prim (p := primLent) (by rfl)]
  have hb : Nat.ble ((bb l).length + 1) 140737488355328 = true := by rw [Nat.ble_eq, bb_length]; exact hl
  have h : ((bb l).all isByte && Nat.ble ((bb l).length + 1) 140737488355328) = true := by rw [isByte_bb, hb]; rfl
  unfold primLent
  dsimp only
  rw [h]
theorem u8_bb (l : List UInt8) : List.map u8Of (bb l) = l := by
  simp only [bb, List.map_map]
  conv => rhs; rw [← List.map_id l]
  refine List.map_congr_left fun b _ => ?_
  simp [u8Of, pvByte]
theorem s14 (n : Nat) (l : List UInt8) (hl : l.length + 1 ≤ 140737488355328) : pcall C (n + 1) 14 [vLent l, vR l] = some ([vB true], [vLent l, .flat .gone]) := by
  rw [pcall_prim (p := primKept) (by rfl)]
  have hb : Nat.ble ((bb l).length + 1) 140737488355328 = true := by rw [Nat.ble_eq, bb_length]; exact hl
  have h : ((bb l).all isByte && (bb l).all isByte && isByte (.int .u8 77) && Nat.ble ((bb l).length + 1) 140737488355328) = true := by
    rw [isByte_bb, hb]; decide
  unfold primKept
  dsimp only
  rw [h]
  dsimp only
  rw [beq_self_eq_true]
  rfl
theorem s15 (n : Nat) (cs : List FV) (h : cs.all isRowB = true) (hl : cs.length ≤ 1000000) : pcall C (n + 1) 15 [.cont .nest cs] = some ([vB true], [.flat .gone]) := by
  rw [pcall_prim (p := primOwned) (by rfl)]
  have h2 : (cs.all isRowB && Nat.ble cs.length 1000000) = true := by
    rw [h, Bool.true_and, Nat.ble_eq]; exact hl
  unfold primOwned
  dsimp only
  rw [h2]
theorem spO (sh : Option Nat) (l sp : List PV) : FV.sp (.own sh l sp) = sp := rfl
theorem row22s (l : List UInt8) : okRow Go.Proofs.Try.prog 22 (bb l) [.int .u8 77] = true := by
  have h1 : tElem Go.Proofs.Try.prog 22 = some 5 := by kernel_rfl
  unfold okRow
  rw [h1]
  dsimp only
  split
  · rw [all5, show ([.int .u8 77] : List PV).all (hasT Go.Proofs.Try.prog 5) = true by kernel_rfl]; rfl
  · rfl
theorem ok22s (l : List UInt8) : okOs Go.Proofs.Try.prog [22] [.os] [vLent l] = true := by
  have h1 : elemShape Go.Proofs.Try.prog 22 = none := by kernel_rfl
  show ((shEq (elemShape Go.Proofs.Try.prog 22) none && okRow Go.Proofs.Try.prog 22 (bb l) [.int .u8 77]) && true) = true
  rw [h1, row22s]; rfl
theorem out22s (l : List UInt8) : okOuts Go.Proofs.Try.prog [22, 22] [.io .os, .ro] [vLent l, .flat .gone] = true := by
  have h1 : elemShape Go.Proofs.Try.prog 22 = none := by kernel_rfl
  show ((shEq (elemShape Go.Proofs.Try.prog 22) none && okRow Go.Proofs.Try.prog 22 (bb l) [.int .u8 77]) && true) = true
  rw [h1, row22s]; rfl
theorem small40 (n : Nat) : pcall C (n + 40) 8 [] = some ([vB true], []) := by kernel_rfl
theorem same_loop (rec : Rec) (n : Nat) (l : List (List UInt8)) (hl : l.length ≤ 1000000000) : ∀ (m i : Nat), l.length < m + i → i ≤ l.length →
    f20_vestrylaw01_SameRows.l0 rec n m (bbs l) (bbs l) (i : Int) = some ([vB true], [])
  | 0, i, h1, h2 => by omega
  | m + 1, i, h1, h2 => by
    show f20_vestrylaw01_SameRows.l0.step rec n (f20_vestrylaw01_SameRows.l0 rec n m) _ _ _ = _
    unfold f20_vestrylaw01_SameRows.l0.step
    by_cases hi : i < l.length
    · have c1 : ((i : Int) < (l.length : Int)) := by omega
      have c2 : (0 : Int) ≤ (i : Int) := by omega
      have w := wrap_nat i (by omega)
      have ih := same_loop rec n l hl m (i + 1) (by omega) (by omega)
      simp only [c1, c2, decide_true, ifB_eq, if_true, needB_true, bbs_length, Int.toNat_natCast, nth_bbs hi, hasT22, toL_sl, isByte_bb, beq_self_eq_true, Bool.not_true, Bool.false_eq_true, if_false, w, ih]
    · have c1 : ¬ ((i : Int) < (l.length : Int)) := by omega
      simp only [bbs_length, c1, decide_false, ifB_eq, Bool.false_eq_true, if_false]
theorem s20' (N : Nat) (l : List (List UInt8)) (hN : l.length + 2 ≤ N) (hl : l.length ≤ 1000000000) : pcall C N 20 [vN l, vN l] = some ([vB true], []) := by
  obtain ⟨n, rfl⟩ : ∃ n, N = n + 1 := ⟨N - 1, by omega⟩
  rw [pcall_step (by rfl) (by rfl), f20_vestrylaw01_SameRows_eq]
  unfold f20_vestrylaw01_SameRows f20_vestrylaw01_SameRows.pre
  have h := same_loop (pcall C n) n l hl n 0 (by omega) (by omega)
  have e : ((((bbs l).length : Nat) : Int) != (((bbs l).length : Nat) : Int)) = false := by simp
  rw [e, ifB_eq, if_neg (by decide)]
  exact h
theorem nestOk32 (l : List (List UInt8)) : nestOk Go.Proofs.Try.prog 32 (nn l) = true := by
  unfold nestOk
  split
  · rename_i e he
    have h22 : nestElem Go.Proofs.Try.prog 32 = some 22 := by kernel_rfl
    rw [h22] at he
    cases he
    rw [List.all_eq_true]
    intro f hf
    obtain ⟨p, _, rfl⟩ := List.mem_map.1 hf
    exact row22 p
  · rfl
theorem ok32n (l : List (List UInt8)) (n e : Int) : okOs Go.Proofs.Try.prog [32, 3, 25] [.n, .v, .v] [.cont .nest (nn l), vI n, vI e] = true := by
  have h := ok32 l n e
  simp only [okOs, List.headD_cons, List.tail_cons, Bool.and_eq_true] at h ⊢
  exact ⟨nestOk32 l, h.2⟩
theorem frz_nn (l : List (List UInt8)) : List.map FV.frz (nn l) = bbs l := by
  simp [nn, bbs, List.map_map, Function.comp_def, FV.frz]
theorem cells_nest (cs : List FV) : OV.cells (.cont .nest cs) = cs := rfl
theorem rowGo_len : ∀ (k : Nat) (l : List UInt8) (p : Nat) (acc : List (List UInt8)), (takeRowGo k l p acc).1.length ≤ acc.length + k
  | 0, l, p, acc => by simp [takeRowGo]
  | k + 1, l, p, acc => by
    unfold takeRowGo
    split
    · have := rowGo_len k l (p + (takeBlobN (l.drop p)).2.1.toNat) (acc ++ [(takeBlobN (l.drop p)).1])
      simp only [List.length_append, List.length_cons, List.length_nil] at this
      omega
    · simp
theorem takeRow_len (l : List UInt8) : (takeRowN l).1.length ≤ 4096 := by
  unfold takeRowN
  split
  · simp
  · split
    · simp
    · have := rowGo_len (valN 0 (l.take 4)) l 4 []
      simp only [List.length_nil] at this
      omega
theorem rowB (l : List UInt8) (sp : List PV) (h : sp.all isByte = true) : isRowB (.own none (bb l) sp) = true := by
  simp [isRowB, isByte_bb, h]
theorem all_nn (l : List (List UInt8)) : (nn l).all isRowB = true := by
  rw [List.all_eq_true]
  intro f hf
  obtain ⟨p, _, rfl⟩ := List.mem_map.1 hf
  exact rowB p [] rfl
theorem s4 (n : Nat) (l : List (List UInt8)) (b : List UInt8) (hb : b.length + 1 ≤ 140737488355328) : pcall C (n + 4301) 4 [vN l, vR b] = some ([vB true], []) := by
  rw [pcall_step (by rfl) (by rfl), f4_vestrylaw01_PlainRows_eq]
  unfold f4_vestrylaw01_PlainRows
  have lr := takeRow_len b
  have h1 : pcall C (n + 4300) 8 [] = _ := small40 (n + 4260)
  have h2 : pcall C (n + 4300) 9 [vR b] = _ := s9 (n + 4299) b hb
  have h3 : pcall C (n + 4300) 16 [vN l] = _ := s16 (n + 100) l
  have h4 : pcall C (n + 4300) 17 [vR b] = _ := s17 (n + 100) b (by omega)
  have h5 : pcall C (n + 4300) 18 [vN l] = _ := s18 (n + 100) l
  have h6 : pcall C (n + 4300) 19 [vR b] = _ := s19 (n + 100) b (by omega)
  have h7 : pcall C (n + 4300) 14 [vLent b, vR b] = _ := s14 (n + 4299) b hb
  have h8 : pcall C (n + 4300) 20 [vN (takeRowN b).1, vN (takeRowN b).1] = _ := s20' (n + 4300) (takeRowN b).1 (by omega) (by omega)
  have h9 : pcall C (n + 4300) 15 [.cont .nest (([FV.own none (bb (rowN l).1) []] ++ nn (takeRowN b).1) ++ [FV.own none (bb b) [.int .u8 77]])] = _ := s15 (n + 4299) _ (by
    rw [List.all_append, List.all_append, all_nn]
    simp [rowB (rowN l).1 [] rfl, rowB b [.int .u8 77] (by decide)]) (by simp [nn]; omega)
  have ln : (nn (takeRowN b).1).length = (takeRowN b).1.length := by simp [nn]
  have b1 : Nat.ble ((1 + (takeRowN b).1.length) * 24) 140737488355328 = true := by rw [Nat.ble_eq]; omega
  have b2 : Nat.ble (1 + (takeRowN b).1.length) 9223372036854775807 = true := by rw [Nat.ble_eq]; omega
  have b3 : Nat.ble ((1 + (takeRowN b).1.length + 1) * 24) 140737488355328 = true := by rw [Nat.ble_eq]; omega
  have b4 : Nat.ble (1 + (takeRowN b).1.length + 1) 9223372036854775807 = true := by rw [Nat.ble_eq]; omega
  simp only [h1, h2, h3, h4, h5, h6, h7, callB_some, ok4, ok22s, ok2225, ok32n, ok32, out22s, needB_true, List.headD_cons, List.tail_cons, fvF, pvF, xsO, spO, toB_bool, toI_int, toL_sl, cells_nest, frz_nn, isByte_bb, u8_bb, beq_self_eq_true, ifB_eq, if_true, h8, List.length_append, List.length_cons, List.length_nil, Nat.zero_add, ln, b1, b2, b3, b4, h9]
end Go.Proofs.Ythkmnomnfmjffaa

