/- What the functions answer, and the laws. -/
import Derived.Test.YtoaclbilkoeghaaDoorSi

set_option linter.unusedVariables false

set_option linter.unusedSimpArgs false

set_option linter.unusedSectionVars false

open Go Go.Ev

set_option linter.unusedSimpArgs false

set_option linter.unusedVariables false

namespace Go.Proofs.YtoaclbilkoeghaaDoor

abbrev vI (n : Int) : OV := .flat (.val (.int .i64 n))
abbrev vB (b : Bool) : OV := .flat (.val (.bool b))
abbrev bb (l : List UInt8) : List PV := l.map pvByte
abbrev vO (l : List UInt8) : OV := .flat (.own none (bb l) [])
abbrev vR (l : List UInt8) : OV := .flat (.val (.sl none (bb l)))

theorem needB_true {α : Type} (x : Option α) : needB true x = x := by
  have h : ∀ b : Bool, b = true → needB b x = x := by
    intro b hb
    subst hb
    rfl
  exact h true rfl
theorem ifB_eq {α : Type} (b : Bool) (x y : Option α) : ifB b x y = if b = true then x else y := by cases b <;> rfl
theorem callB_some {α β : Type} (a : α) (k : α → Option β) : callB (some a) k = k a := by
  have h : ∀ r : Option α, r = some a → callB r k = k a := by
    intro r hr
    subst hr
    rfl
  exact h _ rfl
theorem frzM_nil (r : Option (List OV × List OV)) : frzM [] r = r := by
  cases r with
  | none => rfl
  | some r => cases r with | mk a b => simp [frzM, frzR]
theorem pcall_step {n : Nat} {f : FuncId} {args : List OV} (h : C.prim f = none) (hf : C.frz f = []) : pcall C (n + 1) f args = callBody C (pcall C n) n f args := by
  show (match C.prim f with
    | some p => p args
    | none => frzM (C.frz f) (callBody C (pcall C n) n f args)) = _
  rw [h, hf]
  exact frzM_nil _
theorem pcall_prim {n : Nat} {f : FuncId} {args : List OV} {p : List OV → Option (List OV × List OV)} (h : C.prim f = some p) : pcall C (n + 1) f args = p args := by
  show (match C.prim f with
    | some p => p args
    | none => frzM (C.frz f) (callBody C (pcall C n) n f args)) = _
  rw [h]
theorem fvF (f : FV) : OV.fv (.flat f) = f := rfl
theorem pvF (v : PV) : FV.pv (.val v) = v := rfl
theorem xsO (sh : Option Nat) (l sp : List PV) : FV.xs (.own sh l sp) = l := rfl
theorem toI_int (k : IntKind) (n : Int) : PV.toI (.int k n) = n := rfl
theorem toB_bool (b : Bool) : PV.toB (.bool b) = b := rfl
theorem toL_sl (sh : Option Nat) (b : List PV) : PV.toL (.sl sh b) = b := rfl
theorem hasT5 (b : UInt8) : hasT Go.Proofs.Tryd.prog 5 (pvByte b) = true := by kernel_rfl
theorem all5 (l : List UInt8) : (bb l).all (hasT Go.Proofs.Tryd.prog 5) = true := by
  simp [List.all_eq_true, hasT5]
theorem row22 (l : List UInt8) : okRow Go.Proofs.Tryd.prog 29 (bb l) [] = true := by
  have h1 : tElem Go.Proofs.Tryd.prog 29 = some 5 := by kernel_rfl
  unfold okRow
  rw [h1]
  dsimp only
  split
  · rw [all5]; rfl
  · rfl
theorem okO22 (l : List UInt8) : okO Go.Proofs.Tryd.prog 29 .o (vO l) = true := by
  have h1 : elemShape Go.Proofs.Tryd.prog 29 = none := by kernel_rfl
  show (shEq (elemShape Go.Proofs.Tryd.prog 29) none && okRow Go.Proofs.Tryd.prog 29 (bb l) []) = true
  rw [h1, row22]; rfl
theorem okI3 (n : Int) : okO Go.Proofs.Tryd.prog 3 .v (vI n) = true := by kernel_rfl
theorem okI25 (n : Int) : okO Go.Proofs.Tryd.prog 42 .v (vI n) = true := by kernel_rfl
theorem ok22 (l : List UInt8) : okOs Go.Proofs.Tryd.prog [29] [.o] [vO l] = true := by
  show (okO Go.Proofs.Tryd.prog 29 .o (vO l) && true) = true
  rw [okO22]; rfl
theorem ok2225 (l : List UInt8) (e : Int) : okOs Go.Proofs.Tryd.prog [29, 42] [.o, .v] [vO l, vI e] = true := by
  show (okO Go.Proofs.Tryd.prog 29 .o (vO l) && (okO Go.Proofs.Tryd.prog 42 .v (vI e) && true)) = true
  rw [okO22, okI25]; rfl
theorem ok22325 (l : List UInt8) (n e : Int) : okOs Go.Proofs.Tryd.prog [29, 3, 42] [.o, .v, .v] [vO l, vI n, vI e] = true := by
  show (okO Go.Proofs.Tryd.prog 29 .o (vO l) && (okO Go.Proofs.Tryd.prog 3 .v (vI n) && (okO Go.Proofs.Tryd.prog 42 .v (vI e) && true))) = true
  rw [okO22, okI25, okI3]; rfl
theorem ok4 (b : Bool) : okOs Go.Proofs.Tryd.prog [4] [] [vB b] = true := by kernel_rfl
theorem ok325 (n m : Int) : okOs Go.Proofs.Tryd.prog [3, 42] [] [vI n, vI m] = true := by kernel_rfl
theorem ok34 (n : Int) (b : Bool) : okOs Go.Proofs.Tryd.prog [3, 4] [] [vI n, vB b] = true := by kernel_rfl

/-- A number's bytes, the highest ahead. -/
def byteOf (z : Int) : UInt8 := UInt8.ofNat (z % 256).toNat
def be : Nat → Int → List UInt8
  | 0, _ => []
  | s + 1, n => byteOf (n / 256 ^ s) :: be s n
theorem be_length (s : Nat) (n : Int) : (be s n).length = s := by
  induction s with
  | zero => rfl
  | succ s ih => simp [be, ih]
theorem pvByte_of (z : Int) : PV.int .u8 (IntKind.wrap .u8 z) = pvByte (byteOf z) := by
  have h : IntKind.wrap .u8 z = ((z % 256).toNat : Int) := by
    simp [IntKind.wrap, IntKind.bits, IntKind.signed]
    omega
  rw [h]
  unfold pvByte byteOf
  congr 1
  have : (z % 256).toNat < 256 := by omega
  simp [UInt8.toNat_ofNat', Nat.mod_eq_of_lt this]
theorem shift_of (n : Int) (s : Nat) (hs : s ≤ 7) : Int.fdiv n ((2 : Int) ^ (min (Int.toNat (8 * (s : Int))) (IntKind.bits .i64))) = n / 256 ^ s := by
  have e1 : min (Int.toNat (8 * (s : Int))) (IntKind.bits .i64) = 8 * s := by
    show min (Int.toNat (8 * (s : Int))) 64 = 8 * s
    omega
  rw [e1, Int.pow_mul, Int.fdiv_eq_ediv_of_nonneg _ (Int.pow_nonneg (by decide))]
  rfl
end Go.Proofs.YtoaclbilkoeghaaDoor

open Go Go.Ev

set_option linter.unusedSimpArgs false

set_option linter.unusedVariables false

namespace Go.Proofs.YtoaclbilkoeghaaDoor

theorem bb_append (a b : List UInt8) : bb a ++ bb b = bb (a ++ b) := by simp [bb]
theorem bb_length (a : List UInt8) : (bb a).length = a.length := by simp [bb]
theorem put_loop (rec : Rec) (n : Nat) (x1 : Int) : ∀ (s : Nat) (l : List UInt8) (m : Nat), s ≤ 8 → s < m → l.length + s ≤ 1000000000 →
    f56_plain_put.l0 rec n m (bb l) x1 (8 * (s : Int) - 8) = some ([vO (l ++ be s x1)], [.flat .gone, .flat .gone, .flat .gone])
  | s, l, 0, hs, hm, hl => by omega
  | 0, l, m + 1, hs, hm, hl => by
    show f56_plain_put.l0.step rec n (f56_plain_put.l0 rec n m) (bb l) x1 _ = _
    unfold f56_plain_put.l0.step
    have c : ¬ (8 * ((0 : Nat) : Int) - 8 ≥ 0) := by omega
    simp only [c, decide_false, ifB_eq, Bool.false_eq_true, if_false, be, List.append_nil]
  | s + 1, l, m + 1, hs, hm, hl => by
    show f56_plain_put.l0.step rec n (f56_plain_put.l0 rec n m) (bb l) x1 _ = _
    unfold f56_plain_put.l0.step
    have e : 8 * ((s + 1 : Nat) : Int) - 8 = 8 * (s : Int) := by omega
    rw [e]
    have c : (8 * (s : Int) ≥ 0) := by omega
    have c' : ((0 : Int) ≤ 8 * (s : Int)) := by omega
    have w : IntKind.wrap .i64 (8 * (s : Int) - 8) = 8 * (s : Int) - 8 := by rw [IntKind.wrap_i64]; omega
    have ih := put_loop rec n x1 s (l ++ [byteOf (x1 / 256 ^ s)]) m (by omega) (by omega) (by simp; omega)
    have b1 : Nat.ble (((bb l).length + 1) * 1) 140737488355328 = true := by rw [Nat.ble_eq, bb_length]; omega
    have b2 : Nat.ble ((bb l).length + 1) 9223372036854775807 = true := by rw [Nat.ble_eq, bb_length]; omega
    have e3 : bb l ++ [pvByte (byteOf (x1 / 256 ^ s))] = bb (l ++ [byteOf (x1 / 256 ^ s)]) := by simp [bb]
    simp only [c, c', decide_true, needB_true, shift_of x1 s (by omega), pvByte_of, List.length_cons, List.length_nil, Nat.zero_add, b1, b2, w, e3, ih, ifB_eq, if_true, be, List.append_assoc, List.cons_append, List.nil_append]
theorem s29 (n : Nat) (l : List UInt8) (x : Int) (s : Nat) (hs : s ≤ 8) (hl : l.length ≤ 100000000) : pcall C (n + 11) 56 [vO l, vI x, vI (s : Int)] = some ([vO (l ++ be s x)], [.flat .gone, .flat .gone, .flat .gone]) := by
  rw [pcall_step (by rfl) (by rfl), f56_plain_put_eq]
  unfold f56_plain_put f56_plain_put.pre
  have w1 : IntKind.wrap .i64 ((s : Int) - 1) = (s : Int) - 1 := by rw [IntKind.wrap_i64]; omega
  have w2 : IntKind.wrap .i64 (8 * ((s : Int) - 1)) = 8 * (s : Int) - 8 := by rw [IntKind.wrap_i64]; omega
  rw [w1, w2]
  exact put_loop _ _ x s l (n + 10) hs (by omega) (by omega)
theorem s22 (n : Nat) (x : Int) : pcall C (n + 12) 47 [vI x] = some ([vO (be 8 x)], []) := by
  rw [pcall_step (by rfl) (by rfl), f47_plain_Num_eq]
  unfold f47_plain_Num
  have h : pcall C (n + 11) 56 [.flat (.own none [] []), vI x, vI 8] = _ := s29 n [] x 8 (by omega) (by simp)
  simp only [h, callB_some, List.nil_append, ok22, needB_true, List.headD_cons, fvF, xsO]
end Go.Proofs.YtoaclbilkoeghaaDoor

open Go Go.Ev

set_option linter.unusedSimpArgs false

set_option linter.unusedVariables false

namespace Go.Proofs.YtoaclbilkoeghaaDoor

theorem xor_byte (b : UInt8) : PV.int .u8 (IntKind.wrap .u8 (((BitVec.toNat ((BitVec.ofInt (IntKind.bits .u8) ((b.toNat : Nat) : Int)) ^^^ (BitVec.ofInt (IntKind.bits .u8) (128 : Int))) : Nat) : Int))) = pvByte (b ^^^ 128) := by
  have h1 : BitVec.ofInt (IntKind.bits .u8) ((b.toNat : Nat) : Int) = b.toBitVec := by
    apply BitVec.eq_of_toNat_eq
    show (BitVec.ofInt 8 ((b.toNat : Nat) : Int)).toNat = b.toNat
    rw [BitVec.toNat_ofInt]
    have := b.toNat_lt
    omega
  have h2 : BitVec.ofInt (IntKind.bits .u8) (128 : Int) = (128 : UInt8).toBitVec := rfl
  rw [h1, h2]
  have h3 : (b.toBitVec ^^^ (128 : UInt8).toBitVec).toNat = (b ^^^ 128).toNat := rfl
  have h4 := (b ^^^ 128).toNat_lt
  unfold pvByte
  congr 1
  show IntKind.wrap .u8 ((b.toBitVec ^^^ (128 : UInt8).toBitVec).toNat : Int) = _
  rw [h3]
  generalize (b ^^^ 128).toNat = k at h4 ⊢
  simp [IntKind.wrap, IntKind.bits, IntKind.signed]
  omega
def keyOf (x : Int) : List UInt8 := match be 8 x with
  | b :: r => (b ^^^ 128) :: r
  | [] => []
theorem s21 (n : Nat) (x : Int) : pcall C (n + 13) 36 [vI x] = some ([vO (keyOf x)], []) := by
  rw [pcall_step (by rfl) (by rfl), f36_plain_NumKey_eq]
  unfold f36_plain_NumKey
  have h := s22 n x
  have hk : ∃ b r, be 8 x = b :: r := ⟨_, _, rfl⟩
  obtain ⟨b, r, hb⟩ := hk
  have hkey : keyOf x = (b ^^^ 128) :: r := by unfold keyOf; rw [hb]
  have n0 : nthP (bb (b :: r)) 0 = pvByte b := rfl
  have ti : PV.toI (pvByte b) = ((b.toNat : Nat) : Int) := rfl
  have l0 : Nat.blt 0 (bb (b :: r)).length = true := by rw [Nat.blt_eq, bb_length]; simp
  have c0 : (0 : Int) < (((bb (b :: r)).length : Nat) : Int) := by rw [bb_length]; simp only [List.length_cons]; omega
  have st : List.set (bb (b :: r)) 0 (pvByte (b ^^^ 128)) = bb ((b ^^^ 128) :: r) := rfl
  rw [hb] at h
  simp only [h, callB_some, ok22, needB_true, List.headD_cons, fvF, xsO, n0, hasT5, ti, l0, c0, decide_true, xor_byte, st, hkey]
end Go.Proofs.YtoaclbilkoeghaaDoor

open Go Go.Ev

set_option linter.unusedSimpArgs false

set_option linter.unusedVariables false

set_option maxHeartbeats 1000000

namespace Go.Proofs.YtoaclbilkoeghaaDoor

theorem nth_bb {l : List UInt8} {i : Nat} (h : i < l.length) : nthP (bb l) i = pvByte l[i] := by
  simp [nthP, List.getD, List.getElem?_eq_getElem, h]
theorem toI_byte (b : UInt8) : PV.toI (pvByte b) = ((b.toNat : Nat) : Int) := rfl
theorem wrap_nat (i : Nat) (h : i < 9223372036854775807) : IntKind.wrap .i64 ((i : Int) + 1) = ((i + 1 : Nat) : Int) := by
  rw [IntKind.wrap_i64]; omega
theorem bb_take (l : List UInt8) (k : Nat) : List.take k (bb l) = bb (l.take k) := by simp [bb]
theorem bb_drop (l : List UInt8) (k : Nat) : List.drop k (bb l) = bb (l.drop k) := by simp [bb]
theorem isByte_bb (l : List UInt8) : (bb l).all isByte = true := by
  simp only [List.all_eq_true, List.mem_map]
  rintro x ⟨b, _, rfl⟩
  have := b.toNat_lt
  simp [pvByte, isByte]
  omega
theorem s31 (n : Nat) (l : List UInt8) (hl : l.length ≤ 140737488355328) : pcall C (n + 1) 34 [vR l] = some ([vO l], []) := by
  rw [pcall_prim (p := primClone) (by rfl)]
  have hb : Nat.ble (bb l).length 140737488355328 = true := by rw [Nat.ble_eq, bb_length]; exact hl
  have h : ((bb l).all isByte && Nat.ble (bb l).length 140737488355328) = true := by rw [isByte_bb, hb]; rfl
  unfold primClone
  dsimp only
  rw [h]
theorem xor_pow (k v : Nat) (h : v < 2 ^ (k + 1)) : v ^^^ 2 ^ k = (v + 2 ^ k) % 2 ^ (k + 1) := by
  apply Nat.eq_of_testBit_eq
  intro j
  rw [Nat.testBit_xor, Nat.testBit_mod_two_pow, Nat.testBit_two_pow, Nat.add_comm v (2 ^ k)]
  rcases Nat.lt_trichotomy j k with hj | hj | hj
  · rw [Nat.testBit_two_pow_add_gt hj]
    have h1 : decide (k = j) = false := decide_eq_false (by omega)
    have h2 : decide (j < k + 1) = true := decide_eq_true (by omega)
    rw [h1, h2]
    simp
  · subst hj
    rw [Nat.testBit_two_pow_add_eq]
    simp
  · have h1 : decide (k = j) = false := decide_eq_false (by omega)
    have h2 : decide (j < k + 1) = false := decide_eq_false (by omega)
    have h3 : v.testBit j = false := Nat.testBit_lt_two_pow (Nat.lt_of_lt_of_le h (Nat.pow_le_pow_right (by decide) (by omega)))
    rw [h1, h2, h3]
    rfl
theorem xor128 (b : UInt8) : (b ^^^ 128).toNat = (b.toNat + 128) % 256 := by
  rw [UInt8.toNat_xor]
  exact xor_pow 7 b.toNat b.toNat_lt
end Go.Proofs.YtoaclbilkoeghaaDoor

open Go Go.Ev

set_option linter.unusedSimpArgs false

set_option linter.unusedVariables false

set_option maxHeartbeats 1000000

namespace Go.Proofs.YtoaclbilkoeghaaDoor

theorem ediv_pow (v : Int) (s : Nat) : (v / 256) / 256 ^ s = v / 256 ^ (s + 1) := by
  rw [Int.ediv_ediv_of_nonneg (by decide)]
  congr 1
  rw [Int.pow_succ, Int.mul_comm]
theorem be_last : ∀ (s : Nat) (v : Int), be (s + 1) v = be s (v / 256) ++ [byteOf v]
  | 0, v => by simp [be]
  | s + 1, v => by
    have ih := be_last s v
    show byteOf (v / 256 ^ (s + 1)) :: be (s + 1) v = (byteOf (v / 256 / 256 ^ s) :: be s (v / 256)) ++ [byteOf v]
    rw [ih, ediv_pow]
    rfl
theorem rep_set (a b : UInt8) : ∀ (s : Nat) (t : List UInt8), (List.replicate (s + 1) a ++ t).set s b = List.replicate s a ++ b :: t
  | 0, t => rfl
  | s + 1, t => by
    have ih := rep_set a b s t
    show a :: ((List.replicate (s + 1) a ++ t).set s b) = a :: (List.replicate s a ++ b :: t)
    rw [ih]
theorem bb_set (l : List UInt8) (i : Nat) (b : UInt8) : List.set (bb l) i (pvByte b) = bb (l.set i b) := by simp [bb, List.map_set]
/-! the laws' helpers -/
abbrev vLent (l : List UInt8) : OV := .flat (.own none (bb l) [.int .u8 77])
theorem s9 (n : Nat) (l : List UInt8) (hl : l.length + 1 ≤ 140737488355328) : pcall C (n + 1) 14 [vR l] = some ([vLent l], []) := by
  rw [pcall_prim (p := primLent) (by rfl)]
  have hb : Nat.ble ((bb l).length + 1) 140737488355328 = true := by rw [Nat.ble_eq, bb_length]; exact hl
  have h : ((bb l).all isByte && Nat.ble ((bb l).length + 1) 140737488355328) = true := by rw [isByte_bb, hb]; rfl
  unfold primLent
  dsimp only
  rw [h]
theorem u8_bb (l : List UInt8) : List.map u8Of (bb l) = l := by
  simp only [bb, List.map_map]
  conv => rhs; rw [← List.map_id l]
  refine List.map_congr_left fun b _ => ?_
  simp [u8Of, pvByte]
theorem s14 (n : Nat) (l : List UInt8) (hl : l.length + 1 ≤ 140737488355328) : pcall C (n + 1) 17 [vLent l, vR l] = some ([vB true], [vLent l, .flat .gone]) := by
  rw [pcall_prim (p := primKept) (by rfl)]
  have hb : Nat.ble ((bb l).length + 1) 140737488355328 = true := by rw [Nat.ble_eq, bb_length]; exact hl
  have h : ((bb l).all isByte && (bb l).all isByte && isByte (.int .u8 77) && Nat.ble ((bb l).length + 1) 140737488355328) = true := by
    rw [isByte_bb, hb]; decide
  unfold primKept
  dsimp only
  rw [h]
  dsimp only
  rw [beq_self_eq_true]
  rfl
theorem s15 (n : Nat) (cs : List FV) (h : cs.all isRowB = true) (hl : cs.length ≤ 1000000) : pcall C (n + 1) 13 [.cont .nest cs] = some ([vB true], [.flat .gone]) := by
  rw [pcall_prim (p := primOwned) (by rfl)]
  have h2 : (cs.all isRowB && Nat.ble cs.length 1000000) = true := by
    rw [h, Bool.true_and, Nat.ble_eq]; exact hl
  unfold primOwned
  dsimp only
  rw [h2]
theorem spO (sh : Option Nat) (l sp : List PV) : FV.sp (.own sh l sp) = sp := rfl
theorem row22s (l : List UInt8) : okRow Go.Proofs.Tryd.prog 29 (bb l) [.int .u8 77] = true := by
  have h1 : tElem Go.Proofs.Tryd.prog 29 = some 5 := by kernel_rfl
  unfold okRow
  rw [h1]
  dsimp only
  split
  · rw [all5, show ([.int .u8 77] : List PV).all (hasT Go.Proofs.Tryd.prog 5) = true by kernel_rfl]; rfl
  · rfl
theorem ok22s (l : List UInt8) : okOs Go.Proofs.Tryd.prog [29] [.os] [vLent l] = true := by
  have h1 : elemShape Go.Proofs.Tryd.prog 29 = none := by kernel_rfl
  show ((shEq (elemShape Go.Proofs.Tryd.prog 29) none && okRow Go.Proofs.Tryd.prog 29 (bb l) [.int .u8 77]) && true) = true
  rw [h1, row22s]; rfl
theorem out22s (l : List UInt8) : okOuts Go.Proofs.Tryd.prog [29, 29] [.io .os, .ro] [vLent l, .flat .gone] = true := by
  have h1 : elemShape Go.Proofs.Tryd.prog 29 = none := by kernel_rfl
  show ((shEq (elemShape Go.Proofs.Tryd.prog 29) none && okRow Go.Proofs.Tryd.prog 29 (bb l) [.int .u8 77]) && true) = true
  rw [h1, row22s]; rfl
end Go.Proofs.YtoaclbilkoeghaaDoor

open Go Go.Ev

set_option linter.unusedSimpArgs false

set_option linter.unusedVariables false

set_option maxHeartbeats 1000000

namespace Go.Proofs.YtoaclbilkoeghaaDoor

theorem byteOf_toNat (z : Int) : ((byteOf z).toNat : Int) = z % 256 := by
  unfold byteOf
  have : (z % 256).toNat < 256 := by omega
  simp [UInt8.toNat_ofNat', Nat.mod_eq_of_lt this]
  omega
theorem byteOf_mod {x y : Int} (h : x % 256 = y % 256) : byteOf x = byteOf y := by unfold byteOf; rw [h]
theorem be_mod : ∀ (s : Nat) (x y : Int), (∀ i, i < s → (x / 256 ^ i) % 256 = (y / 256 ^ i) % 256) → be s x = be s y
  | 0, x, y, h => rfl
  | s + 1, x, y, h => by
    unfold be
    rw [byteOf_mod (h s (by omega)), be_mod s x y fun i hi => h i (by omega)]
/-- A number's key, its number raised to be none below nought. -/
theorem key_be (x : Int) : keyOf x = be 8 (x + 9223372036854775808) := by
  have e : be 8 x = byteOf (x / 256 ^ 7) :: be 7 x := rfl
  unfold keyOf
  rw [e]
  show (byteOf (x / 256 ^ 7) ^^^ 128) :: be 7 x = byteOf ((x + 9223372036854775808) / 256 ^ 7) :: be 7 (x + 9223372036854775808)
  congr 1
  · apply UInt8.toNat_inj.mp
    rw [xor128]
    have h1 := byteOf_toNat (x / 256 ^ 7)
    have h2 := byteOf_toNat ((x + 9223372036854775808) / 256 ^ 7)
    have e7 : (256 : Int) ^ 7 = 72057594037927936 := by decide
    rw [e7] at h1 h2
    rw [e7]
    omega
  · apply be_mod
    intro i hi
    match i, hi with
    | 0, _ => simp only [Int.pow_zero]; omega
    | 1, _ => rw [show (256 : Int) ^ 1 = 256 by decide]; omega
    | 2, _ => rw [show (256 : Int) ^ 2 = 65536 by decide]; omega
    | 3, _ => rw [show (256 : Int) ^ 3 = 16777216 by decide]; omega
    | 4, _ => rw [show (256 : Int) ^ 4 = 4294967296 by decide]; omega
    | 5, _ => rw [show (256 : Int) ^ 5 = 1099511627776 by decide]; omega
    | 6, _ => rw [show (256 : Int) ^ 6 = 281474976710656 by decide]; omega
theorem nth_mid (a : List UInt8) (b : UInt8) (t : List UInt8) : nthP (bb (a ++ b :: t)) a.length = pvByte b := by
  have h : a.length < (a ++ b :: t).length := by simp
  rw [nth_bb h]
  congr 1
  simp
theorem be_zero_last (s : Nat) (q : Int) (h : q % 256 = 255) : be (s + 1) (q + 1) = be s (q / 256 + 1) ++ [0] := by
  rw [be_last]
  have e1 : (q + 1) / 256 = q / 256 + 1 := by omega
  have e2 : byteOf (q + 1) = 0 := by
    apply UInt8.toNat_inj.mp
    have := byteOf_toNat (q + 1)
    have e : ((0 : UInt8).toNat) = 0 := rfl
    rw [e]; omega
  rw [e1, e2]
end Go.Proofs.YtoaclbilkoeghaaDoor

open Go Go.Ev

set_option linter.unusedSimpArgs false

set_option linter.unusedVariables false

set_option maxHeartbeats 1000000

namespace Go.Proofs.YtoaclbilkoeghaaDoor

/-- A byte, wherever it stands, by others. -/
def escW (z : UInt8) (r : List UInt8) : List UInt8 → List UInt8
  | [] => []
  | b :: t => if b = z then r ++ escW z r t else b :: escW z r t
theorem index_none : ∀ (l : List UInt8) (z : UInt8), l.count z = 0 → Lib.indexByte l z = -1
  | [], z, h => rfl
  | b :: t, z, h => by
    rw [List.count_cons] at h
    have hb : (b == z) = false := by
      cases hb : b == z with
      | false => rfl
      | true => rw [hb] at h; simp at h
    have ht : t.count z = 0 := by rw [hb] at h; simpa using h
    unfold Lib.indexByte
    rw [hb, index_none t z ht]
    rfl
theorem index_some : ∀ (l : List UInt8) (z : UInt8), 0 < l.count z → ∃ k : Nat, Lib.indexByte l z = (k : Int) ∧ k < l.length ∧ (l.take k).count z = 0 ∧ l = l.take k ++ z :: l.drop (k + 1)
  | [], z, h => by simp at h
  | b :: t, z, h => by
    unfold Lib.indexByte
    cases hb : b == z with
    | true =>
      have : b = z := by simpa using hb
      subst this
      exact ⟨0, by simp, by simp, by simp, by simp⟩
    | false =>
      rw [List.count_cons, hb] at h
      obtain ⟨k, h1, h2, h3, h4⟩ := index_some t z (by simpa using h)
      have hne : (Lib.indexByte t z == -1) = false := by
        rw [h1]
        exact decide_eq_false (by omega)
      refine ⟨k + 1, ?_, ?_, ?_, ?_⟩
      · rw [hne, h1]; simp
      · simp; omega
      · rw [List.take_succ_cons, List.count_cons, h3, hb]; simp
      · simp only [List.take_succ_cons, List.drop_succ_cons, List.cons_append]
        rw [← h4]
theorem escW_none : ∀ (l : List UInt8) (z : UInt8) (r : List UInt8), l.count z = 0 → escW z r l = l
  | [], z, r, h => rfl
  | b :: t, z, r, h => by
    rw [List.count_cons] at h
    have hb : b ≠ z := by
      rintro rfl
      simp at h
    have ht : t.count z = 0 := by omega
    simp only [escW]
    rw [if_neg hb, escW_none t z r ht]
theorem escW_append : ∀ (a b : List UInt8) (z : UInt8) (r : List UInt8), escW z r (a ++ b) = escW z r a ++ escW z r b
  | [], b, z, r => rfl
  | x :: t, b, z, r => by
    simp only [List.cons_append, escW]
    rw [escW_append t b z r]
    split <;> simp
theorem escW_len : ∀ (l : List UInt8) (z a b : UInt8), (escW z [a, b] l).length = l.length + l.count z
  | [], z, a, b => rfl
  | x :: t, z, a, b => by
    simp only [escW, List.count_cons, List.length_cons]
    have := escW_len t z a b
    by_cases h : x = z
    · rw [if_pos h]
      subst h
      simp [this]; omega
    · rw [if_neg h]
      have hb : (x == z) = false := by simpa using h
      rw [hb]
      simp [this]; omega
theorem wrap_in (z : Int) (h0 : 0 ≤ z) (h1 : z < 9223372036854775808) : IntKind.wrap .i64 z = z := by
  rw [IntKind.wrap_i64]; omega
theorem ok_3 (n : Int) : okOs Go.Proofs.Tryd.prog [3] [] [vI n] = true := by kernel_rfl
abbrev v0 : OV := .flat (.val (.sl none [PV.int .u8 0]))
theorem s22' (n : Nat) (l : List UInt8) : pcall C (n + 1) 72 [vR l, .flat (.val (.int .u8 0))] = some ([vI (Lib.indexByte l 0)], []) := by
  rw [pcall_prim (p := primIndexByte) (by rfl)]
  unfold primIndexByte
  dsimp only
  rw [isByte_bb]
  dsimp only
  rw [u8_bb]
  rfl
theorem s31' (n : Nat) (l : List UInt8) : pcall C (n + 1) 65 [vR l, v0] = some ([vI ((l.count 0 : Nat) : Int)], []) := by
  rw [pcall_prim (p := primCountOne) (by rfl)]
  unfold primCountOne
  dsimp only
  rw [isByte_bb]
  dsimp only
  rw [u8_bb]
  rfl
theorem s32' (n : Nat) (l : List UInt8) : pcall C (n + 2) 66 [vR l, v0] = some ([vI (Lib.indexByte l 0)], []) := by
  rw [pcall_step (by rfl) (by rfl), f66_bytes_Index_eq]
  unfold f66_bytes_Index
  have h := s22' n l
  have c : ((0 : Int) < (([PV.int .u8 0] : List PV).length : Nat)) := by simp
  have n0 : nthP [PV.int .u8 0] 0 = PV.int .u8 0 := rfl
  have h5 : hasT Go.Proofs.Tryd.prog 5 (PV.int .u8 0) = true := by kernel_rfl
  simp only [c, n0, h5, toI_int, decide_true, needB_true, h, callB_some, ok_3, List.headD_cons, fvF, pvF]
theorem splice_at (out seg : List UInt8) (r k o : Nat) (ho : out.length = o) (hs : seg.length = k) (hk : k ≤ r) :
    List.take o (out ++ List.replicate r 0) ++ List.take k seg ++ List.drop (o + k) (out ++ List.replicate r 0) = (out ++ seg) ++ List.replicate (r - k) 0 := by
  subst ho hs
  rw [List.take_left, List.take_length, List.drop_append, List.drop_of_length_le (by omega), List.nil_append, List.drop_replicate]
  congr 2
  omega
theorem replace_loop (rec : Rec) (n : Nat) (s : List UInt8) (hs : s.length ≤ 1000000000) (hrec : ∀ l : List UInt8, rec 66 [vR l, v0] = some ([vI (Lib.indexByte l 0)], [])) : ∀ (c m p o r i : Nat) (out : List UInt8), c < m → (s.drop p).count 0 = c → p ≤ s.length → r = (s.length - p) + c → out.length = o → 0 < o + r → o + r ≤ 2000000000 →
    i + c ≤ 1000000000 →
    f57_bytes_Replace.l0 rec n m (bb s) [PV.int .u8 0] (bb [0, 255]) (bb (out ++ List.replicate r 0)) (o : Int) (p : Int) ((i + c : Nat) : Int) (i : Int) = some ([vO (out ++ escW 0 [0, 255] (s.drop p))], [])
  | c, 0, p, o, r, i, out, h1, h2, h3, h4, h5, h6, h7, h8 => by omega
  | 0, m + 1, p, o, r, i, out, h1, h2, h3, h4, h5, h6, h7, h8 => by
    show f57_bytes_Replace.l0.step rec n (f57_bytes_Replace.l0 rec n m) _ _ _ _ _ _ _ _ = _
    unfold f57_bytes_Replace.l0.step
    have c1 : ¬ ((i : Int) < ((i + 0 : Nat) : Int)) := by omega
    have c2 : (0 : Int) ≤ (o : Int) := by omega
    have ln : (out ++ List.replicate r 0).length = o + r := by simp [h5]
    have c3 : ((o : Int) ≤ ((o + r : Nat) : Int)) := by omega
    have c4 : (0 : Int) ≤ (p : Int) := by omega
    have c5 : ((p : Int) ≤ (s.length : Int)) := by omega
    have c6 : Nat.blt 0 (o + r) = true := by rw [Nat.blt_eq]; exact h6
    have dl : (s.drop p).length = r := by rw [List.length_drop]; omega
    have mn : Nat.min r (o + r - o) = r := by rw [Nat.add_sub_cancel_left]; exact Nat.min_self r
    have w : IntKind.wrap .i64 ((o : Int) + (r : Int)) = ((o + r : Nat) : Int) := by rw [wrap_in _ (by omega) (by omega)]; omega
    have c7 : (0 : Int) ≤ ((o + r : Nat) : Int) := by omega
    have sp := splice_at out (s.drop p) r r o h5 dl (Nat.le_refl _)
    rw [Nat.sub_self, List.replicate_zero, List.append_nil] at sp
    have ln2 : (out ++ s.drop p).length = o + r := by rw [List.length_append, dl, h5]
    have c8 : (((o + r : Nat) : Int) ≤ ((o + r : Nat) : Int)) := Int.le_refl _
    have tk : List.take (o + r) (out ++ s.drop p) = out ++ s.drop p := List.take_of_length_le (by omega)
    simp only [c1, decide_false, ifB_eq, Bool.false_eq_true, if_false, c2, c3, c4, c5, c6, c7, c8, decide_true, needB_true, bb_length, ln, Int.toNat_natCast, bb_drop, bb_take, bb_append, dl, mn, w, sp, ln2, tk]
    rw [escW_none _ _ _ h2]
  | c + 1, m + 1, p, o, r, i, out, h1, h2, h3, h4, h5, h6, h7, h8 => by
    show f57_bytes_Replace.l0.step rec n (f57_bytes_Replace.l0 rec n m) _ _ _ _ _ _ _ _ = _
    unfold f57_bytes_Replace.l0.step
    obtain ⟨k, k1, k2, k3, k4⟩ := index_some (s.drop p) 0 (by omega)
    have hr := hrec (s.drop p)
    rw [k1] at hr
    obtain ⟨seg, hseg⟩ : ∃ seg, (s.drop p).take k = seg := ⟨_, rfl⟩
    rw [List.length_drop] at k2
    have segl : seg.length = k := by rw [← hseg, List.length_take, List.length_drop]; omega
    have eseg : List.drop p (List.take (p + k) s) = seg := by
      rw [List.drop_take, Nat.add_sub_cancel_left, hseg]
    rw [hseg] at k3 k4
    rw [List.drop_drop, ← Nat.add_assoc] at k4
    have cnt : (s.drop (p + k + 1)).count 0 = c := by
      rw [k4, List.count_append, k3, List.count_cons] at h2
      simp at h2
      exact h2
    have c1 : ((i : Int) < ((i + (c + 1) : Nat) : Int)) := by omega
    have c2 : (0 : Int) ≤ (p : Int) := by omega
    have c3 : ((p : Int) ≤ (s.length : Int)) := by omega
    have w1 : IntKind.wrap .i64 ((p : Int) + (k : Int)) = ((p + k : Nat) : Int) := by rw [wrap_in _ (by omega) (by omega)]; omega
    have ln : (out ++ List.replicate r 0).length = o + r := by simp [h5]
    have c4 : (0 : Int) ≤ (o : Int) := by omega
    have c5 : ((o : Int) ≤ ((o + r : Nat) : Int)) := by omega
    have c6 : ((p : Int) ≤ ((p + k : Nat) : Int)) := by omega
    have c7 : (((p + k : Nat) : Int) ≤ (s.length : Int)) := by omega
    have c8 : Nat.blt 0 (o + r) = true := by rw [Nat.blt_eq]; exact h6
    have m1 : Nat.min k (o + r - o) = k := by rw [Nat.add_sub_cancel_left]; exact Nat.min_eq_left (by omega)
    have sp1 := splice_at out seg r k o h5 segl (by omega)
    have w2 : IntKind.wrap .i64 ((o : Int) + (k : Int)) = ((o + k : Nat) : Int) := by rw [wrap_in _ (by omega) (by omega)]; omega
    have ln2 : (out ++ seg ++ List.replicate (r - k) 0).length = o + r := by simp [h5, segl]; omega
    have c9 : (0 : Int) ≤ ((o + k : Nat) : Int) := by omega
    have c10 : (((o + k : Nat) : Int) ≤ ((o + r : Nat) : Int)) := by omega
    have l2 : ([0, 255] : List UInt8).length = 2 := rfl
    have m2 : Nat.min 2 (o + r - (o + k)) = 2 := Nat.min_eq_left (by omega)
    have sp2 := splice_at (out ++ seg) [0, 255] (r - k) 2 (o + k) (by simp [h5, segl]) rfl (by omega)
    have w3 : IntKind.wrap .i64 (((o + k : Nat) : Int) + ((2 : Nat) : Int)) = ((o + k + 2 : Nat) : Int) := by rw [wrap_in _ (by omega) (by omega)]; omega
    have l1 : ([PV.int .u8 0] : List PV).length = 1 := rfl
    have w4 : IntKind.wrap .i64 (((p + k : Nat) : Int) + ((1 : Nat) : Int)) = ((p + k + 1 : Nat) : Int) := by rw [wrap_in _ (by omega) (by omega)]; omega
    have w5 := wrap_nat i (by omega)
    have ih := replace_loop rec n s hs hrec c m (p + k + 1) (o + k + 2) (r - k - 2) (i + 1) (out ++ seg ++ [0, 255]) (by omega) cnt (by omega) (by omega) (by simp [h5, segl]; omega) (by omega) (by omega) (by omega)
    have e1 : ((i + (c + 1) : Nat) : Int) = ((i + 1 + c : Nat) : Int) := by omega
    rw [e1] at c1
    rw [e1]
    simp only [c1, c2, c3, c4, c5, c6, c7, c8, c9, c10, decide_true, ifB_eq, if_true, needB_true, bb_length, Int.toNat_natCast, bb_drop, bb_take, bb_append, hr, callB_some, ok_3, List.headD_cons, fvF, pvF, toI_int, w1, eseg, ln, segl, m1, sp1, w2, ln2, l2, m2, sp2, w3, l1, w4, w5, ih]
    rw [k4, escW_append, escW_none _ _ _ k3]
    simp [escW, List.append_assoc]
theorem s28' (N : Nat) (s : List UInt8) (hN : s.length + 10 ≤ N) (hs : s.length ≤ 1000000000) : pcall C N 57 [vR s, v0, vR [0, 255], vI (-1)] = some ([vO (escW 0 [0, 255] s)], []) := by
  obtain ⟨n, rfl⟩ : ∃ n, N = n + 3 := ⟨N - 3, by omega⟩
  rw [pcall_step (by rfl) (by rfl), show ([vR s, v0, vR [0, 255], vI (-1)] : List OV) = [OV.flat (FV.val (PV.sl none (bb s))), OV.flat (FV.val (PV.sl none [PV.int .u8 0])), OV.flat (FV.val (PV.sl none [PV.int .u8 0, PV.int .u8 255])), OV.flat (FV.val (PV.int .i64 (-1 : Int)))] from rfl, f57_bytes_Replace_eq]
  unfold f57_bytes_Replace f57_bytes_Replace.pre
  have h := s31' (n + 1) s
  by_cases h0 : s.count 0 = 0
  · rw [h0] at h
    have b1 : Nat.ble ((0 + s.length) * 1) 140737488355328 = true := by rw [Nat.ble_eq]; omega
    have b2 : Nat.ble (0 + s.length) 9223372036854775807 = true := by rw [Nat.ble_eq]; omega
    have e0 : ((((0 : Nat) : Int) == (0 : Int)) : Bool) = true := rfl
    simp only [h, callB_some, ok_3, needB_true, List.headD_cons, fvF, pvF, toI_int, e0, ifB_eq, if_true, List.length_nil, bb_length, b1, b2, List.nil_append]
    rw [escW_none _ _ _ h0]
  · have hc : s.count 0 ≤ s.length := List.count_le_length
    have e0 : (((s.count 0 : Nat) : Int) == (0 : Int)) = false := by simp; omega
    have w1 : IntKind.wrap .i64 (((s.count 0 : Nat) : Int) * 1) = ((s.count 0 : Nat) : Int) := by rw [Int.mul_one, wrap_in _ (by omega) (by omega)]
    have w2 : IntKind.wrap .i64 (((s.length : Nat) : Int) + ((s.count 0 : Nat) : Int)) = ((s.length + s.count 0 : Nat) : Int) := by rw [wrap_in _ (by omega) (by omega)]; omega
    have c1 : (0 : Int) ≤ ((s.length + s.count 0 : Nat) : Int) := by omega
    have b1 : Nat.ble (1 * (s.length + s.count 0)) 140737488355328 = true := by rw [Nat.ble_eq]; omega
    have b2 : Nat.ble (s.length + s.count 0) 9223372036854775807 = true := by rw [Nat.ble_eq]; omega
    have hrec : ∀ l : List UInt8, pcall C (n + 2) 66 [vR l, v0] = some ([vI (Lib.indexByte l 0)], []) := fun l => s32' n l
    have hl := replace_loop (pcall C (n + 2)) (n + 2) s hs hrec (s.count 0) (n + 2) 0 0 (s.length + s.count 0) 0 [] (by omega) rfl (by omega) (by omega) rfl (by omega) (by omega) (by omega)
    rw [List.nil_append, List.nil_append, List.drop_zero, Nat.zero_add] at hl
    have rp : List.replicate (s.length + s.count 0) (PV.int .u8 0) = bb (List.replicate (s.length + s.count 0) 0) := by simp [bb, pvByte]
    simp only [h, callB_some, ok_3, needB_true, List.headD_cons, fvF, pvF, toI_int, e0, ifB_eq, Bool.false_eq_true, if_false, bb_length, w1, w2, c1, decide_true, beq_self_eq_true, Int.toNat_natCast, b1, b2, rp]
    exact hl
theorem s21' (N : Nat) (s : List UInt8) (hN : s.length + 11 ≤ N) (hs : s.length ≤ 1000000000) : pcall C N 48 [vR s, v0, vR [0, 255]] = some ([vO (escW 0 [0, 255] s)], []) := by
  obtain ⟨n, rfl⟩ : ∃ n, N = n + 1 := ⟨N - 1, by omega⟩
  rw [pcall_step (by rfl) (by rfl), show ([vR s, v0, vR [0, 255]] : List OV) = [OV.flat (FV.val (PV.sl none (bb s))), OV.flat (FV.val (PV.sl none [PV.int .u8 0])), OV.flat (FV.val (PV.sl none [PV.int .u8 0, PV.int .u8 255]))] from rfl, f48_bytes_ReplaceAll_eq]
  unfold f48_bytes_ReplaceAll
  have h : pcall C n 57 [OV.flat (FV.val (PV.sl none (bb s))), OV.flat (FV.val (PV.sl none [PV.int .u8 0])), OV.flat (FV.val (PV.sl none [PV.int .u8 0, PV.int .u8 255])), OV.flat (FV.val (PV.int .i64 (-1 : Int)))] = _ := s28' n s (by omega) hs
  simp only [h, callB_some, ok22, needB_true, List.headD_cons, fvF, xsO]
/-- A text's key. -/
def tkey (s : List UInt8) : List UInt8 := escW 0 [0, 255] s ++ [0, 0]
theorem s8' (N : Nat) (s : List UInt8) (hN : s.length + 12 ≤ N) (hs : s.length ≤ 1000000000) : pcall C N 37 [.flat (.val (.str s))] = some ([vO (tkey s)], []) := by
  obtain ⟨n, rfl⟩ : ∃ n, N = n + 1 := ⟨N - 1, by omega⟩
  rw [pcall_step (by rfl) (by rfl), f37_plain_TextKey_eq]
  unfold f37_plain_TextKey
  have h : pcall C n 48 [OV.flat (FV.val (PV.sl none (List.map pvByte s))), OV.flat (FV.val (PV.sl none [PV.int .u8 0])), OV.flat (FV.val (PV.sl none [PV.int .u8 0, PV.int .u8 255]))] = _ := s21' n s (by omega) hs
  have hl := escW_len s 0 0 255
  have hc : s.count 0 ≤ s.length := List.count_le_length
  have b0 : Nat.ble s.length 9223372036854775807 = true := by rw [Nat.ble_eq]; omega
  have l2 : ([PV.int .u8 0, PV.int .u8 0] : List PV).length = 2 := rfl
  have b1 : Nat.ble (((escW 0 [0, 255] s).length + 2) * 1) 140737488355328 = true := by rw [Nat.ble_eq]; omega
  have b2 : Nat.ble ((escW 0 [0, 255] s).length + 2) 9223372036854775807 = true := by rw [Nat.ble_eq]; omega
  simp only [b0, needB_true, h, callB_some, ok22, List.headD_cons, fvF, xsO, bb_length, l2, b1, b2]
  rw [show bb (escW 0 [0, 255] s) ++ [PV.int .u8 0, PV.int .u8 0] = bb (tkey s) by unfold tkey; simp [bb, pvByte]]
end Go.Proofs.YtoaclbilkoeghaaDoor

open Go Go.Ev

set_option linter.unusedSimpArgs false

set_option linter.unusedVariables false

set_option maxHeartbeats 1000000

namespace Go.Proofs.YtoaclbilkoeghaaDoor

theorem tkey_len (s : List UInt8) : (tkey s).length ≤ 2 * s.length + 2 := by
  have hl := escW_len s 0 0 255
  have hc : s.count 0 ≤ s.length := List.count_le_length
  simp [tkey, hl]; omega
theorem rtext_loop (rec : Rec) (n : Nat) (s : List UInt8) (hs : s.length ≤ 1000000000) : ∀ (m i : Nat) (out : List UInt8), s.length < m + i → i ≤ s.length → out.length ≤ 2 * i →
    f55_vestryref01_TextKey.l0 rec n m s (bb out) (i : Int) = some ([vO (out ++ tkey (s.drop i))], [])
  | 0, i, out, h1, h2, h3 => by omega
  | m + 1, i, out, h1, h2, h3 => by
    show f55_vestryref01_TextKey.l0.step rec n (f55_vestryref01_TextKey.l0 rec n m) _ _ _ = _
    unfold f55_vestryref01_TextKey.l0.step
    by_cases hi : i < s.length
    · have c1 : ((i : Int) < (s.length : Int)) := by omega
      have c2 : (0 : Int) ≤ (i : Int) := by omega
      have w := wrap_nat i (by omega)
      have hd : s.drop i = s[i] :: s.drop (i + 1) := List.drop_eq_getElem_cons hi
      have hg : List.getD s i 0 = s[i] := by simp [List.getD, hi]
      have pb : PV.int .u8 ((s[i].toNat : Nat) : Int) = pvByte s[i] := rfl
      have p5 : PV.int .u8 (255 : Int) = pvByte 255 := rfl
      have l1 : ∀ x : PV, ([x] : List PV).length = 1 := fun _ => rfl
      have a1 : bb out ++ [pvByte s[i]] = bb (out ++ [s[i]]) := by simp [bb]
      have a2 : bb (out ++ [s[i]]) ++ [pvByte 255] = bb (out ++ [s[i]] ++ [255]) := by simp [bb]
      have b1 : Nat.ble ((out.length + 1) * 1) 140737488355328 = true := by rw [Nat.ble_eq]; omega
      have b2 : Nat.ble (out.length + 1) 9223372036854775807 = true := by rw [Nat.ble_eq]; omega
      have ln : (out ++ [s[i]]).length = out.length + 1 := by simp
      have b3 : Nat.ble ((out.length + 1 + 1) * 1) 140737488355328 = true := by rw [Nat.ble_eq]; omega
      have b4 : Nat.ble (out.length + 1 + 1) 9223372036854775807 = true := by rw [Nat.ble_eq]; omega
      have ih1 := rtext_loop rec n s hs m (i + 1) (out ++ [s[i]] ++ [255]) (by omega) (by omega) (by simp; omega)
      have ih2 := rtext_loop rec n s hs m (i + 1) (out ++ [s[i]]) (by omega) (by omega) (by simp; omega)
      have ev : (((s[i].toNat : Nat) : Int) == (0 : Int)) = decide (s[i] = 0) := by
        by_cases h : s[i] = 0
        · rw [h]; rfl
        · have : s[i].toNat ≠ 0 := fun e => h (UInt8.toNat_inj.mp e)
          rw [decide_eq_false h]
          exact decide_eq_false (by omega)
      simp only [c1, c2, decide_true, ifB_eq, if_true, needB_true, bb_length, Int.toNat_natCast, hg, pb, p5, l1, a1, a2, b1, b2, ln, b3, b4, w, ih1, ih2, ev]
      rw [hd]
      unfold tkey
      simp only [escW]
      by_cases h : s[i] = 0
      · simp [h]
      · simp [h]
    · have c1 : ¬ ((i : Int) < (s.length : Int)) := by omega
      have hd : s.drop i = [] := List.drop_eq_nil_of_le (by omega)
      have l2 : ([PV.int .u8 (0 : Int), PV.int .u8 (0 : Int)] : List PV).length = 2 := rfl
      have b1 : Nat.ble ((out.length + 2) * 1) 140737488355328 = true := by rw [Nat.ble_eq]; omega
      have b2 : Nat.ble (out.length + 2) 9223372036854775807 = true := by rw [Nat.ble_eq]; omega
      simp only [c1, decide_false, ifB_eq, Bool.false_eq_true, if_false, bb_length, l2, b1, b2, needB_true]
      rw [hd, show bb out ++ [PV.int .u8 0, PV.int .u8 0] = bb (out ++ tkey []) by simp [bb, pvByte, tkey, escW]]
theorem s13' (N : Nat) (s : List UInt8) (hN : s.length + 2 ≤ N) (hs : s.length ≤ 1000000000) : pcall C N 55 [.flat (.val (.str s))] = some ([vO (tkey s)], []) := by
  obtain ⟨n, rfl⟩ : ∃ n, N = n + 1 := ⟨N - 1, by omega⟩
  rw [pcall_step (by rfl) (by rfl), f55_vestryref01_TextKey_eq]
  unfold f55_vestryref01_TextKey f55_vestryref01_TextKey.pre
  have := rtext_loop (pcall C n) n s hs n 0 [] (by omega) (by omega) (by simp)
  rw [List.nil_append, List.drop_zero] at this
  exact this

/-- A text out of bytes: the text, where it ends, what is wrong. -/
def takeT : List UInt8 → Nat → List UInt8 → List UInt8 × Nat × Int
  | [], _, _ => ([], 0, 3)
  | [_], _, _ => ([], 0, 3)
  | b :: c :: r, p, out => if b = 0 then (if c = 0 then (out, p + 2, 0) else if c = 255 then takeT r (p + 2) (out ++ [0]) else ([], 0, 4)) else takeT (c :: r) (p + 1) (out ++ [b])
theorem takeT_no : ∀ (b : UInt8) (r : List UInt8) (p : Nat) (out : List UInt8), b ≠ 0 → takeT (b :: r) p out = takeT r (p + 1) (out ++ [b])
  | b, [], p, out, h => rfl
  | b, c :: r, p, out, h => by simp only [takeT]; rw [if_neg h]
theorem takeT_none : ∀ (l : List UInt8) (p : Nat) (out : List UInt8), l.count 0 = 0 → takeT l p out = ([], 0, 3)
  | [], p, out, h => rfl
  | b :: r, p, out, h => by
    rw [List.count_cons] at h
    have hb : b ≠ 0 := by rintro rfl; simp at h
    rw [takeT_no b r p out hb]
    exact takeT_none r _ _ (by omega)
theorem takeT_seg : ∀ (seg r : List UInt8) (p : Nat) (out : List UInt8), seg.count 0 = 0 → takeT (seg ++ r) p out = takeT r (p + seg.length) (out ++ seg)
  | [], r, p, out, h => by simp
  | b :: t, r, p, out, h => by
    rw [List.count_cons] at h
    have hb : b ≠ 0 := by rintro rfl; simp at h
    rw [List.cons_append, takeT_no b _ p out hb, takeT_seg t r _ _ (by omega)]
    simp only [List.length_cons, List.append_assoc, List.cons_append, List.nil_append]
    congr 1
    omega
theorem toI0 (b : UInt8) : ((((b.toNat : Nat) : Int) == (0 : Int)) : Bool) = decide (b = 0) := by
  by_cases h : b = 0
  · rw [h]; rfl
  · have : b.toNat ≠ 0 := fun e => h (UInt8.toNat_inj.mp e)
    rw [decide_eq_false h]
    exact decide_eq_false (by omega)
theorem toI0' (b : UInt8) : ((((b.toNat : Nat) : Int) != (0 : Int)) : Bool) = !decide (b = 0) := by
  rw [← toI0]; rfl
theorem toI255 (b : UInt8) : ((((b.toNat : Nat) : Int) == (255 : Int)) : Bool) = decide (b = 255) := by
  by_cases h : b = 255
  · rw [h]; rfl
  · have : b.toNat ≠ 255 := fun e => h (UInt8.toNat_inj.mp e)
    rw [decide_eq_false h]
    exact decide_eq_false (by omega)
theorem toI255' (b : UInt8) : ((((b.toNat : Nat) : Int) != (255 : Int)) : Bool) = !decide (b = 255) := by
  rw [← toI255]; rfl
abbrev vS (l : List UInt8) : OV := .flat (.val (.str l))
end Go.Proofs.YtoaclbilkoeghaaDoor

open Go Go.Ev

set_option linter.unusedSimpArgs false

set_option linter.unusedVariables false

set_option maxHeartbeats 1000000

namespace Go.Proofs.YtoaclbilkoeghaaDoor

/-! texts -/
theorem takeT_esc : ∀ (s : List UInt8) (p : Nat) (out rest : List UInt8), takeT (escW 0 [0, 255] s ++ 0 :: 0 :: rest) p out = (out ++ s, p + (escW 0 [0, 255] s).length + 2, 0)
  | [], p, out, rest => by simp [escW, takeT]
  | x :: t, p, out, rest => by
    by_cases h : x = 0
    · have ih := takeT_esc t (p + 2) (out ++ [0]) rest
      subst h
      simp only [escW, if_true, List.cons_append, List.nil_append, takeT, show ((255 : UInt8) = 0) = False from by decide, if_false]
      rw [ih]
      simp; omega
    · have ih := takeT_esc t (p + 1) (out ++ [x]) rest
      simp only [escW, if_neg h, List.cons_append]
      rw [takeT_no _ _ _ _ h, ih]
      simp; omega
theorem takeT_tkey (s rest : List UInt8) : takeT (tkey s ++ rest) 0 [] = (s, (tkey s).length, 0) := by
  have := takeT_esc s 0 [] rest
  unfold tkey
  rw [List.append_assoc]
  show takeT (escW 0 [0, 255] s ++ 0 :: 0 :: rest) 0 [] = _
  rw [this]
  simp
theorem takeT_back : ∀ (l : List UInt8) (p : Nat) (out u : List UInt8) (o : Nat), takeT l p out = (u, o, 0) → ∃ mid, u = out ++ mid ∧ o = p + (tkey mid).length ∧ (tkey mid).length ≤ l.length ∧ l.take (tkey mid).length = tkey mid
  | [], p, out, u, o, h => by simp [takeT] at h
  | [b], p, out, u, o, h => by simp [takeT] at h
  | b :: c :: r, p, out, u, o, h => by
    simp only [takeT] at h
    by_cases hb : b = 0
    · rw [if_pos hb] at h
      subst hb
      by_cases hc : c = 0
      · rw [if_pos hc] at h
        subst hc
        simp only [Prod.mk.injEq, and_true] at h
        obtain ⟨rfl, rfl⟩ := h
        exact ⟨[], by simp, by simp [tkey, escW], by simp [tkey, escW], by simp [tkey, escW]⟩
      · rw [if_neg hc] at h
        by_cases h5 : c = 255
        · rw [if_pos h5] at h
          subst h5
          obtain ⟨mid, h1, h2, h3, h4⟩ := takeT_back r (p + 2) (out ++ [0]) u o h
          have e : tkey (0 :: mid) = 0 :: 255 :: tkey mid := by simp [tkey, escW]
          refine ⟨0 :: mid, by rw [h1]; simp, by rw [e]; simp; omega, by rw [e]; simp; omega, ?_⟩
          rw [e]
          simp [h4]
        · rw [if_neg h5] at h
          simp at h
    · rw [if_neg hb] at h
      obtain ⟨mid, h1, h2, h3, h4⟩ := takeT_back (c :: r) (p + 1) (out ++ [b]) u o h
      have e : tkey (b :: mid) = b :: tkey mid := by simp [tkey, escW, hb]
      refine ⟨b :: mid, by rw [h1]; simp, by rw [e]; simp; omega, by rw [e]; simpa using h3, ?_⟩
      rw [e]
      simp [h4]
/-! order -/
theorem less_be : ∀ (s : Nat) (X Y : Nat) (a b : List UInt8), X % 256 ^ s ≠ Y % 256 ^ s → Op.bytesLess (be s (X : Int) ++ a) (be s (Y : Int) ++ b) = decide (X % 256 ^ s < Y % 256 ^ s)
  | 0, X, Y, a, b, h => by simp [Nat.mod_one] at h
  | s + 1, X, Y, a, b, h => by
    have eb : ∀ Z : Nat, (byteOf ((Z : Int) / 256 ^ s)).toNat = Z / 256 ^ s % 256 := by
      intro Z
      have h1 := byteOf_toNat ((Z : Int) / 256 ^ s)
      have h2 : ((Z : Int) / 256 ^ s) = ((Z / 256 ^ s : Nat) : Int) := by simp
      rw [h2] at h1
      rw [h2]
      omega
    have em : ∀ Z : Nat, Z % 256 ^ (s + 1) = Z % 256 ^ s + 256 ^ s * (Z / 256 ^ s % 256) := fun Z => by rw [Nat.pow_succ, Nat.mod_mul]
    have hM : 0 < 256 ^ s := Nat.pow_pos (by decide)
    have hx := Nat.mod_lt X hM
    have hy := Nat.mod_lt Y hM
    rw [em, em] at h ⊢
    show (decide (byteOf ((X : Int) / 256 ^ s) < byteOf ((Y : Int) / 256 ^ s)) || (byteOf ((X : Int) / 256 ^ s) == byteOf ((Y : Int) / 256 ^ s) && Op.bytesLess (be s (X : Int) ++ a) (be s (Y : Int) ++ b))) = _
    have e1 : decide (byteOf ((X : Int) / 256 ^ s) < byteOf ((Y : Int) / 256 ^ s)) = decide (X / 256 ^ s % 256 < Y / 256 ^ s % 256) := by
      rw [← eb X, ← eb Y]
      simp [UInt8.lt_iff_toNat_lt]
    have e2 : (byteOf ((X : Int) / 256 ^ s) == byteOf ((Y : Int) / 256 ^ s)) = decide (X / 256 ^ s % 256 = Y / 256 ^ s % 256) := by
      rw [← eb X, ← eb Y]
      by_cases hh : byteOf ((X : Int) / 256 ^ s) = byteOf ((Y : Int) / 256 ^ s)
      · simp [hh]
      · have : (byteOf ((X : Int) / 256 ^ s)).toNat ≠ (byteOf ((Y : Int) / 256 ^ s)).toNat := fun e => hh (UInt8.toNat_inj.mp e)
        simp [hh, this]
    rw [e1, e2]
    generalize hA : X / 256 ^ s % 256 = A at *
    generalize hB : Y / 256 ^ s % 256 = B at *
    generalize hu : X % 256 ^ s = u at *
    generalize hv : Y % 256 ^ s = v at *
    rcases Nat.lt_trichotomy A B with hl | hl | hl
    · have := Nat.mul_le_mul_left (256 ^ s) (show A + 1 ≤ B by omega)
      rw [Nat.mul_add, Nat.mul_one] at this
      rw [decide_eq_true hl, Bool.true_or]
      exact (decide_eq_true (by omega)).symm
    · subst hl
      rw [less_be s X Y a b (by rw [hu, hv]; intro e; exact h (by rw [e])), hu, hv]
      simp
    · have := Nat.mul_le_mul_left (256 ^ s) (show B + 1 ≤ A by omega)
      rw [Nat.mul_add, Nat.mul_one] at this
      rw [decide_eq_false (by omega : ¬ A < B), decide_eq_false (by omega : ¬ A = B), Bool.false_and, Bool.or_false]
      exact (decide_eq_false (by omega)).symm
theorem less_keys (x y : Int) (hx0 : -9223372036854775808 ≤ x) (hx1 : x ≤ 9223372036854775807) (hy0 : -9223372036854775808 ≤ y) (hy1 : y ≤ 9223372036854775807) (hne : x ≠ y) (a b : List UInt8) :
    Op.bytesLess (keyOf x ++ a) (keyOf y ++ b) = decide (x < y) := by
  have p8 : (256 : Nat) ^ 8 = 18446744073709551616 := by decide
  have ex : x + 9223372036854775808 = (((x + 9223372036854775808).toNat : Nat) : Int) := by omega
  have ey : y + 9223372036854775808 = (((y + 9223372036854775808).toNat : Nat) : Int) := by omega
  rw [key_be, key_be, ex, ey, less_be 8 _ _ a b (by rw [p8]; omega), p8]
  apply decide_eq_decide.mpr
  omega
theorem less_tkeys : ∀ (s t a b : List UInt8), s ≠ t → Op.bytesLess (tkey s ++ a) (tkey t ++ b) = Op.bytesLess s t
  | [], [], a, b, h => absurd rfl h
  | [], y :: t, a, b, h => by
    by_cases hy : y = 0
    · subst hy
      simp [tkey, escW, Op.bytesLess]
    · have : (0 : UInt8) < y := by
        rw [UInt8.lt_iff_toNat_lt]
        have : y.toNat ≠ 0 := fun e => hy (UInt8.toNat_inj.mp e)
        show 0 < y.toNat
        omega
      simp [tkey, escW, hy, Op.bytesLess, this]
  | x :: s, [], a, b, h => by
    by_cases hx : x = 0
    · subst hx
      simp [tkey, escW, Op.bytesLess]
    · have : ¬ x < (0 : UInt8) := by
        rw [UInt8.lt_iff_toNat_lt]
        exact Nat.not_lt_zero _
      simp [tkey, escW, hx, Op.bytesLess, this]
  | x :: s, y :: t, a, b, h => by
    have ih := less_tkeys s t a b
    have ez : ∀ z : List UInt8, tkey (0 :: z) = 0 :: 255 :: tkey z := fun z => by simp [tkey, escW]
    have en : ∀ (c : UInt8) (z : List UInt8), c ≠ 0 → tkey (c :: z) = c :: tkey z := fun c z hc => by simp [tkey, escW, hc]
    by_cases hx : x = 0 <;> by_cases hy : y = 0
    · subst hx; subst hy
      have hne : s ≠ t := fun e => h (by rw [e])
      rw [ez, ez]
      simp [Op.bytesLess, ih hne]
    · subst hx
      have : (0 : UInt8) < y := by
        rw [UInt8.lt_iff_toNat_lt]
        have : y.toNat ≠ 0 := fun e => hy (UInt8.toNat_inj.mp e)
        show 0 < y.toNat
        omega
      rw [ez, en y t hy]
      simp [Op.bytesLess, this]
    · subst hy
      have : ¬ x < (0 : UInt8) := by
        rw [UInt8.lt_iff_toNat_lt]
        exact Nat.not_lt_zero _
      rw [ez, en x s hx]
      have hz : (x == 0) = false := by simpa using hx
      simp [Op.bytesLess, this, hz]
    · rw [en x s hx, en y t hy]
      by_cases hxy : x = y
      · subst hxy
        have hne : s ≠ t := fun e => h (by rw [e])
        simp [Op.bytesLess, ih hne]
      · have hz : (x == y) = false := by simpa using hxy
        simp [Op.bytesLess, hz]
theorem tkey_begin (s t : List UInt8) (h : (tkey t).take (tkey s).length = tkey s) : s = t := by
  have e : tkey t = tkey s ++ (tkey t).drop (tkey s).length := by
    conv => lhs; rw [← List.take_append_drop (tkey s).length (tkey t), h]
  have h1 := takeT_tkey t []
  rw [List.append_nil] at h1
  have h2 := takeT_tkey s ((tkey t).drop (tkey s).length)
  rw [← e, h1] at h2
  simp only [Prod.mk.injEq] at h2
  exact h2.1.symm
end Go.Proofs.YtoaclbilkoeghaaDoor

