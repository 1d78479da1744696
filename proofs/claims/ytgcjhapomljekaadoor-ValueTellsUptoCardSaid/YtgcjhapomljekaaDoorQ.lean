/- What the functions answer, and the laws. -/
import Derived.Test.YtgcjhapomljekaaDoorW
import Derived.Lib.ItoaNum
import Derived.Shelf.LaysM
import Derived.Shelf.Strconv.Itoa4
import Derived.Deep.RegionHeld3
import Derived.Deep.DrawnRows

set_option linter.unusedVariables false

set_option linter.unusedSimpArgs false

set_option linter.unusedSectionVars false

open Go Go.Ev

set_option linter.unusedSimpArgs false

set_option linter.unusedVariables false

set_option maxHeartbeats 4000000

namespace Go.Proofs.YtgcjhapomljekaaDoor
open X13 (Vl Rs vV cmpN rightN sameV inI numV nullV knownN compareBytes_eq)

theorem ok_9 (t : List UInt8) : okOs Go.Proofs.Tryd.prog [9] [] [vS t] = true := by kernel_rfl
theorem digit_byte (u : Nat) (h : u < 10) : PV.int .u8 (IntKind.wrap .u8 (IntKind.wrap .i64 ((48 : Int) + (u : Int)))) = pvByte (UInt8.ofNat (48 + u)) := by
  have h1 : IntKind.wrap .i64 ((48 : Int) + (u : Int)) = ((48 + u : Nat) : Int) := by rw [IntKind.wrap_i64]; omega
  have h2 : IntKind.wrap .u8 ((48 + u : Nat) : Int) = ((48 + u : Nat) : Int) := by rw [IntKind.wrap_u8]; omega
  rw [h1, h2]
  unfold pvByte
  congr 1
  simp [UInt8.toNat_ofNat', Nat.mod_eq_of_lt (show 48 + u < 256 by omega)]
theorem dig_len : ∀ (d u : Nat), u < 10 ^ (d + 1) → (Lib.decDigits u).length ≤ d + 1
  | 0, u, h => by
    rw [Lib.decDigits, dif_pos (by simpa using h)]
    simp
  | d + 1, u, h => by
    rw [Lib.decDigits]
    split
    · simp
    · have h2 : u / 10 < 10 ^ (d + 1) := by
        rw [Nat.pow_succ] at h
        omega
      have := dig_len d (u / 10) h2
      rw [List.length_append]
      simp only [List.length_singleton]
      omega
theorem s50d : ∀ (d n u : Nat), u < 10 ^ (d + 1) → u ≤ 9223372036854775807 → d ≤ 1000 → pcall C (n + d + 1) 50 [vI (u : Int)] = some ([vS (Lib.decDigits u)], [])
  | 0, n, u, h, hu, hd => by
    have h10 : u < 10 := by simpa using h
    rw [pcall_step (by rfl) (by rfl), f50_vestryref07_digits_eq]
    unfold f50_vestryref07_digits
    rw [Lib.decDigits, dif_pos h10]
    have c : ((u : Int) < 10) := by omega
    simp only [c, decide_true, ifB_eq, if_true]
    rw [digit_byte u h10]
    have e : [pvByte (UInt8.ofNat (48 + u))] = bb [UInt8.ofNat (48 + u)] := rfl
    rw [e, isByte_bb, needB_true, u8_bb]
  | d + 1, n, u, h, hu, hd => by
    by_cases h10 : u < 10
    · rw [pcall_step (by rfl) (by rfl), f50_vestryref07_digits_eq]
      unfold f50_vestryref07_digits
      rw [Lib.decDigits, dif_pos h10]
      have c : ((u : Int) < 10) := by omega
      simp only [c, decide_true, ifB_eq, if_true]
      rw [digit_byte u h10]
      have e : [pvByte (UInt8.ofNat (48 + u))] = bb [UInt8.ofNat (48 + u)] := rfl
      rw [e, isByte_bb, needB_true, u8_bb]
    · have h2 : u / 10 < 10 ^ (d + 1) := by
        rw [Nat.pow_succ] at h
        omega
      have ih : pcall C (n + (d + 1)) 50 [vI ((u / 10 : Nat) : Int)] = _ := s50d d n (u / 10) h2 (by omega) (by omega)
      have dl := dig_len d (u / 10) h2
      rw [pcall_step (by rfl) (by rfl), f50_vestryref07_digits_eq]
      unfold f50_vestryref07_digits
      rw [Lib.decDigits, dif_neg h10]
      have c : ¬ ((u : Int) < 10) := by omega
      have w1 : IntKind.wrap .i64 (Int.tdiv (u : Int) 10) = ((u / 10 : Nat) : Int) := by
        rw [show Int.tdiv (u : Int) 10 = ((u / 10 : Nat) : Int) from rfl, IntKind.wrap_i64]
        omega
      have w2 : Int.tmod (u : Int) 10 = ((u % 10 : Nat) : Int) := rfl
      simp only [c, decide_false, ifB_eq, Bool.false_eq_true, if_false]
      rw [w1, w2, digit_byte (u % 10) (by omega)]
      have e : [pvByte (UInt8.ofNat (48 + u % 10))] = bb [UInt8.ofNat (48 + u % 10)] := rfl
      rw [e]
      have b1 : Nat.ble ((Lib.decDigits (u / 10)).length + [UInt8.ofNat (48 + u % 10)].length) 9223372036854775807 = true := by
        rw [Nat.ble_eq, List.length_singleton]; omega
      simp only [ih, callB_some, ok_9, needB_true, List.headD_cons, fvF, pvF, toS_s, isByte_bb, u8_bb, b1]
theorem s50n (n u : Nat) (hu : u ≤ 9223372036854775807) : pcall C (n + 20) 50 [vI (u : Int)] = some ([vS (Lib.decDigits u)], []) :=
  s50d 19 n u (by have : (10 : Nat) ^ (19 + 1) = 100000000000000000000 := by decide
                  omega) hu (by omega)
theorem dec_len (u : Nat) (hu : u ≤ 9223372036854775808) : (Lib.decDigits u).length ≤ 20 :=
  dig_len 19 u (by have : (10 : Nat) ^ (19 + 1) = 100000000000000000000 := by decide
                   omega)
theorem s37n (n : Nat) (x : Int) (hx : inI x) : pcall C (n + 21) 37 [vI x] = some ([vS (Lib.itoa x)], []) := by
  rw [pcall_step (by rfl) (by rfl), f37_vestryref07_Number_eq]
  unfold f37_vestryref07_Number Lib.itoa
  obtain ⟨hx0, hx1⟩ := hx
  by_cases h0 : x ≥ 0
  · have ex : x = ((x.toNat : Nat) : Int) := by omega
    have nn : ¬ x < 0 := by omega
    have ih : pcall C (n + 20) 50 [vI x] = some ([vS (Lib.decDigits x.toNat)], []) := by
      have := s50n n x.toNat (by omega)
      rw [← ex] at this
      exact this
    simp only [h0, nn, decide_true, ifB_eq, if_true, if_false, ih, callB_some, ok_9, needB_true, List.headD_cons, fvF, pvF, toS_s]
  · have nn : x < 0 := by omega
    by_cases h10 : x > -10
    · have w : IntKind.wrap .i64 ((0 : Int) - x) = ((x.natAbs : Nat) : Int) := by rw [IntKind.wrap_i64]; omega
      have ih := s50n n x.natAbs (by omega)
      have dl := dec_len x.natAbs (by omega)
      have b1 : Nat.ble (([45] : List UInt8).length + (Lib.decDigits x.natAbs).length) 9223372036854775807 = true := by
        rw [Nat.ble_eq, List.length_singleton]; omega
      simp only [h0, nn, h10, decide_true, decide_false, ifB_eq, Bool.false_eq_true, if_true, if_false, w, ih, callB_some, ok_9, needB_true, List.headD_cons, fvF, pvF, toS_s, b1]
      rfl
    · have w1 : IntKind.wrap .i64 ((0 : Int) - IntKind.wrap .i64 (Int.tdiv x 10)) = ((x.natAbs / 10 : Nat) : Int) := by
        have e : Int.tdiv x 10 = - ((x.natAbs / 10 : Nat) : Int) := by
          have : x = - ((x.natAbs : Nat) : Int) := by omega
          conv => lhs; rw [this]
          rw [Int.neg_tdiv]; rfl
        rw [e]
        have w : IntKind.wrap .i64 (- ((x.natAbs / 10 : Nat) : Int)) = - ((x.natAbs / 10 : Nat) : Int) := by rw [IntKind.wrap_i64]; omega
        rw [w, IntKind.wrap_i64]; omega
      have w2 : IntKind.wrap .i64 ((0 : Int) - Int.tmod x 10) = ((x.natAbs % 10 : Nat) : Int) := by
        have e : Int.tmod x 10 = - ((x.natAbs % 10 : Nat) : Int) := by
          have : x = - ((x.natAbs : Nat) : Int) := by omega
          conv => lhs; rw [this]
          rw [Int.neg_tmod]; rfl
        rw [e, IntKind.wrap_i64]; omega
      have i1 := s50n n (x.natAbs / 10) (by omega)
      have i2 := s50n n (x.natAbs % 10) (by omega)
      have d1 := dec_len (x.natAbs / 10) (by omega)
      have d2 := dec_len (x.natAbs % 10) (by omega)
      have b1 : Nat.ble (([45] : List UInt8).length + (Lib.decDigits (x.natAbs / 10)).length) 9223372036854775807 = true := by
        rw [Nat.ble_eq, List.length_singleton]; omega
      have b2 : Nat.ble (([45] ++ Lib.decDigits (x.natAbs / 10) : List UInt8).length + (Lib.decDigits (x.natAbs % 10)).length) 9223372036854775807 = true := by
        rw [Nat.ble_eq, List.length_append, List.length_singleton]; omega
      have last : Lib.decDigits (x.natAbs % 10) = [UInt8.ofNat (48 + x.natAbs % 10)] := by
        rw [Lib.decDigits, dif_pos (by omega)]
      have whole : Lib.decDigits x.natAbs = Lib.decDigits (x.natAbs / 10) ++ [UInt8.ofNat (48 + x.natAbs % 10)] := by
        conv => lhs; rw [Lib.decDigits]
        rw [dif_neg (by omega)]
      simp only [h0, nn, h10, decide_true, decide_false, ifB_eq, Bool.false_eq_true, if_true, if_false, w1, w2, i1, i2, callB_some, ok_9, needB_true, List.headD_cons, fvF, pvF, toS_s, b1, b2]
      rw [last, whole]
      rfl
end Go.Proofs.YtgcjhapomljekaaDoor

open Go Go.Ev

set_option linter.unusedSimpArgs false

set_option linter.unusedVariables false

set_option maxHeartbeats 4000000

namespace Go.Proofs.YtgcjhapomljekaaDoor
open X13 (Vl Rs vV cmpN rightN sameV inI numV nullV knownN compareBytes_eq)

/-- A value as it is written. -/
def litN (v : Vl) : List UInt8 := if v.k = 1 then Lib.itoa v.n else if v.k ≠ 2 then [78, 85, 76, 76] else [39] ++ escW 39 [39, 39] v.t ++ [39]
theorem lit_loop (rec : Rec) (n : Nat) (k x : Int) (t : List UInt8) (ht : t.length ≤ 1000000000) : ∀ (m i : Nat) (out : List UInt8), t.length < m + i → i ≤ t.length → out.length ≤ 2 * i + 1 →
    f16_vestryref07_Literal.l0 rec n m k x t out (i : Int) = some ([vS (out ++ escW 39 [39, 39] (t.drop i) ++ [39])], [])
  | 0, i, out, h1, h2, h3 => by omega
  | m + 1, i, out, h1, h2, h3 => by
    show f16_vestryref07_Literal.l0.step rec n (f16_vestryref07_Literal.l0 rec n m) _ _ _ _ _ = _
    unfold f16_vestryref07_Literal.l0.step
    by_cases hi : i < t.length
    · have c0 : ((i : Int) < ((t.length : Nat) : Int)) := by omega
      have c1 : (0 : Int) ≤ (i : Int) := by omega
      have ht : Int.toNat (i : Int) = i := rfl
      have ht' : Int.toNat ((i + 1 : Nat) : Int) = i + 1 := rfl
      have w := wrap_nat' i (by omega)
      have c2 : (i : Int) ≤ ((i + 1 : Nat) : Int) := by omega
      have c3 : ((i + 1 : Nat) : Int) ≤ ((t.length : Nat) : Int) := by omega
      have hd : t.drop i = t[i] :: t.drop (i + 1) := List.drop_eq_getElem_cons hi
      have hg : t.getD i 0 = t[i] := by simp [List.getD, hi]
      have hs : List.drop i (List.take (i + 1) t) = [t[i]] := by
        rw [List.drop_take, Nat.add_sub_cancel_left, hd]
        rfl
      rw [hd]
      generalize t[i] = b at hg hs ⊢
      have kb := byte_is b 39 (by decide)
      have b1 : Nat.ble (out.length + ([39] : List UInt8).length) 9223372036854775807 = true := by rw [Nat.ble_eq, List.length_singleton]; omega
      have b2 : Nat.ble ((out ++ [39]).length + [b].length) 9223372036854775807 = true := by rw [Nat.ble_eq, List.length_append, List.length_singleton, List.length_singleton]; omega
      have b3 : Nat.ble (out.length + [b].length) 9223372036854775807 = true := by rw [Nat.ble_eq, List.length_singleton]; omega
      simp only [c0, c1, ht, ht', w, c2, c3, hg, hs, decide_true, ifB_eq, needB_true, if_true, b1, b2, b3]
      by_cases e : b = 39
      · subst e
        have e1 : ((((39 : UInt8).toNat : Nat) : Int) == (39 : Int)) = true := rfl
        have ih := lit_loop rec n k x t (by omega) m (i + 1) ((out ++ [39]) ++ [39]) (by omega) (by omega) (by simp; omega)
        simp only [e1, if_true, ih]
        simp [escW]
      · have e1 : ((((b).toNat : Nat) : Int) == (39 : Int)) = false := by rw [show (39 : Int) = ((39 : Nat) : Int) from rfl, kb]; exact decide_eq_false e
        have ih := lit_loop rec n k x t (by omega) m (i + 1) (out ++ [b]) (by omega) (by omega) (by simp; omega)
        simp only [e1, Bool.false_eq_true, if_false, ih]
        simp [escW, e]
    · have c0 : ¬ ((i : Int) < ((t.length : Nat) : Int)) := by omega
      have hd : t.drop i = [] := by rw [List.drop_eq_nil_iff]; omega
      have b1 : Nat.ble (out.length + ([39] : List UInt8).length) 9223372036854775807 = true := by rw [Nat.ble_eq, List.length_singleton]; omega
      simp only [c0, decide_false, Bool.false_eq_true, ifB_eq, if_false, hd, b1, needB_true, escW, List.append_nil]
theorem s16l (N : Nat) (v : Vl) (hN : v.t.length + 30 ≤ N) (hx : inI v.n) (ht : v.t.length ≤ 1000000000) : pcall C N 16 [vV v.k v.n v.t] = some ([vS (litN v)], []) := by
  obtain ⟨n, rfl⟩ : ∃ n, N = n + 22 := ⟨N - 22, by omega⟩
  rw [pcall_step (by rfl) (by rfl), f16_vestryref07_Literal_eq]
  unfold f16_vestryref07_Literal f16_vestryref07_Literal.pre litN
  by_cases h1 : v.k = 1
  · have e1 : ((v.k == (1 : Int)) : Bool) = true := by simpa using h1
    have ih : pcall C (n + 21) 37 [vI v.n] = _ := s37n n v.n hx
    rw [if_pos h1]
    simp only [e1, ifB_eq, if_true, ih, callB_some, ok_9, needB_true, List.headD_cons, fvF, pvF, toS_s]
  · have e1 : ((v.k == (1 : Int)) : Bool) = false := by simpa using h1
    rw [if_neg h1]
    by_cases h2 : v.k = 2
    · have e2 : ((v.k != (2 : Int)) : Bool) = false := by simpa using h2
      have := lit_loop (pcall C (n + 21)) (n + 21) v.k v.n v.t ht (n + 21) 0 [39] (by omega) (by omega) (by simp)
      rw [List.drop_zero] at this
      rw [if_neg (by rw [h2]; simp)]
      simp only [e1, e2, ifB_eq, Bool.false_eq_true, if_false]
      exact this
    · have e2 : ((v.k != (2 : Int)) : Bool) = true := by simpa using h2
      rw [if_pos h2]
      simp only [e1, e2, ifB_eq, Bool.false_eq_true, if_false, if_true]
end Go.Proofs.YtgcjhapomljekaaDoor

namespace Go.Proofs
open Go.Shelf Go.RowKit Go.Sort Go.Lib

shelf_lay LaysM.n171 Nm 171 at Tryd as Tryd.laysM171
theorem Tryd.itoa_any (n : Int) (h0 : -9223372036854775808 ≤ n) (h1 : n ≤ 9223372036854775807) (w : World) (htab : Lib.TabIs Tryd.prog w "internal/strconv.uint64pow10" .u64 Lib.pow10Tab) :
    Calls Tryd.prog 35 #[.int .i64 n] w fun e w' => e = .returned (.string ⟨(Lib.itoa n).toArray⟩) ∧ ∃ k os, w' = grow (w.drewN k) os := Any.strconv_Itoa Tryd.laysM171 n h0 h1 w htab
end Go.Proofs
namespace Go.Proofs.YtgcjhapomljekaaDoor
open Go.RowKit Go.Sort Go.Shelf
/-- The old blocks, the system and the output are as they were. -/
structure Quiet (w w' : World) : Prop where
  os : w'.os = w.os
  output : w'.output = w.output
  size : w.heap.size ≤ w'.heap.size
  same : ∀ k, k < w.heap.size → w'.heap[k]? = w.heap[k]?
theorem quiet_below {w w' : World} (h : Below w.heap.size w w') : Quiet w w' := ⟨h.os, h.output, h.size, h.block⟩
theorem quiet_refl (w : World) : Quiet w w := ⟨rfl, rfl, Nat.le_refl _, fun _ _ => rfl⟩
theorem quiet_trans {a b c : World} (h : Quiet a b) (g : Quiet b c) : Quiet a c :=
  ⟨g.os.trans h.os, g.output.trans h.output, Nat.le_trans h.size g.size, fun k hk => (g.same k (Nat.lt_of_lt_of_le hk h.size)).trans (h.same k hk)⟩
theorem quiet_grow (w : World) (k : Nat) (os : Array Obj) : Quiet w (grow (w.drewN k) os) := by
  refine ⟨rfl, rfl, ?_, fun b hb => ?_⟩
  · show w.heap.size ≤ (w.heap ++ os).size
    simp
  · show (w.heap ++ os)[b]? = w.heap[b]?
    rw [Array.getElem?_append_left hb]
theorem quiet_alloc (w : World) (o : Obj) : Quiet w (w.alloc o) := by
  refine ⟨rfl, rfl, ?_, fun b hb => ?_⟩
  · show w.heap.size ≤ (w.heap.push o).size
    simp
  · show (w.heap.push o)[b]? = w.heap[b]?
    rw [Array.getElem?_push_lt hb, Array.getElem?_eq_getElem hb]
theorem tab_quiet {w w' : World} {name : String} {k : IntKind} {zs : List Int} (h : Lib.TabIs Tryd.prog w name k zs) (q : Quiet w w') : Lib.TabIs Tryd.prog w' name k zs := by
  unfold Lib.TabIs World.var? at h ⊢
  cases hg : Tryd.prog.globalNamed name with
  | none => rw [hg] at h; cases h
  | some g =>
    rw [hg] at h
    simp only [Option.bind_some] at h ⊢
    have hlt : g < w.heap.size := by
      rcases Nat.lt_or_ge g w.heap.size with h' | h'
      · exact h'
      · rw [Array.getElem?_eq_none h'] at h; cases h
    rw [q.same g hlt]
    exact h
set_option maxHeartbeats 4000000 in
set_option maxRecDepth 100000 in
theorem lit_walk (k n : Int) (t : ByteArray) (w : World) (h0 : -9223372036854775808 ≤ n) (h1 : n ≤ 9223372036854775807) (ht : t.size ≤ 1000000000) (htab : Lib.TabIs Tryd.prog w "internal/strconv.uint64pow10" .u64 Lib.pow10Tab) :
    Calls Tryd.prog 15 #[.agg #[.int .i64 k, .int .i64 n, .string t]] w fun e w' => e = .returned (.string ⟨(litN ⟨k, n, t.data.toList⟩).toArray⟩) ∧ Quiet w w' := by
  by_cases k1 : k = 1
  · subst k1
    go_enter Tryd.func15, Tryd.ntmps15
    go_wp2_with fail
    refine (Tryd.itoa_any n h0 h1 _ (tab_quiet htab (quiet_alloc w _))).mono ?_
    rintro e w' ⟨rfl, kk, os, rfl⟩
    dsimp only
    go_wp2
    go_ret
    exact ⟨rfl, quiet_trans (quiet_alloc w _) (quiet_grow _ _ _)⟩
  · by_cases k2 : k = 2
    · subst k2
      have hl : (escW 39 [39, 39] t.data.toList).length ≤ 2000000000 := by
        rw [escW_len]
        have h2 : t.data.toList.length = t.size := (Lib.size_eq t).symm
        have h3 : t.data.toList.count 39 ≤ t.data.toList.length := List.count_le_length
        omega
      go_enter Tryd.func15, Tryd.ntmps15
      go_wp2_with fail
      refine (Tryd.replaceAll_q t _ ht).mono ?_
      rintro e w' ⟨rfl, hb⟩
      dsimp only
      go_wp2
      all_goals first | (exfalso; omega) | skip
      go_ret
      refine ⟨?_, quiet_trans (quiet_alloc w _) (quiet_below hb)⟩
      unfold litN
      rw [if_neg (show ¬ ((2 : Int) = 1) by decide), if_neg (show ¬ ((2 : Int) ≠ 2) by decide)]
      congr 2
      try (apply ByteArray.ext; simp)
    · have e1 : (k == 1) = false := beq_eq_false_iff_ne.2 k1
      have e2 : (k == 2) = false := beq_eq_false_iff_ne.2 k2
      go_enter Tryd.func15, Tryd.ntmps15
      go_wp2
      go_ret
      refine ⟨?_, quiet_alloc w _⟩
      unfold litN
      rw [if_neg k1, if_pos k2]
      rfl
end Go.Proofs.YtgcjhapomljekaaDoor

open Go Go.Ev

set_option linter.unusedSimpArgs false

set_option linter.unusedVariables false

set_option maxHeartbeats 4000000

namespace Go.Proofs.YtgcjhapomljekaaDoor
open X13 (Vl Rs vV cmpN rightN sameV inI numV nullV knownN compareBytes_eq)

theorem s14c (n : Nat) (a b : Vl) : pcall C (n + 1) 14 [vV a.k a.n a.t, vV b.k b.n b.t] = some ([vI (cmpN a b)], []) := by
  rw [pcall_step (by rfl) (by rfl), f14_vestryref07_Compare_eq]
  unfold f14_vestryref07_Compare
  have z := cmpN_zero a b
  have l := cmpN_lt a b
  have r := cmpN_range a b
  have hs := X13.sameV_iff a b
  unfold sameV at hs
  by_cases e : a = b
  · simp only [hs.2 e, ifB_eq, if_true, z.2 e]
  · have e' : ((a.k == b.k) && ((a.n == b.n) && ((a.t == b.t) && true))) = false := by
      cases h : ((a.k == b.k) && ((a.n == b.n) && ((a.t == b.t) && true)))
      · rfl
      · exact absurd (hs.1 h) e
    have z' : ¬ cmpN a b = 0 := fun h => e (z.1 h)
    simp only [e', ifB_eq, Bool.false_eq_true, if_false]
    by_cases c : cmpN a b < 0
    · have c1 : cmpN a b = -1 := by omega
      rw [c1]
      rcases l.1 c with h | ⟨h1, h | ⟨h2, h3⟩⟩
      · simp [h]
      · simp [h1, h]
      · simp [h1, h2, h3]
    · have c1 : cmpN a b = 1 := by omega
      rw [c1]
      have nl := fun h => c (l.2 h)
      have n1 : ¬ a.k < b.k := fun h => nl (.inl h)
      simp only [n1, decide_false, Bool.false_eq_true, if_false]
      by_cases h1 : a.k = b.k
      · have n2 : ¬ a.n < b.n := fun h => nl (.inr ⟨h1, .inl h⟩)
        by_cases h2 : a.n = b.n
        · have n3 : Op.bytesLess a.t b.t = false := by
            cases h : Op.bytesLess a.t b.t
            · rfl
            · exact absurd (.inr ⟨h1, .inr ⟨h2, h⟩⟩) nl
          simp [h1, n2, h2, n3]
        · simp [h1, n2, h2]
      · simp [h1]
end Go.Proofs.YtgcjhapomljekaaDoor

namespace Go.Proofs.YtgcjhapomljekaaDoor
open Go Go.Ev Go.RowKit Go.Sort Go.Shelf
open X13 (Vl vV cmpN rightN inI)

/-- A value, as the model holds it. -/
def VV (v : Vl) : Value := .agg #[.int .i64 v.k, .int .i64 v.n, .string ⟨v.t.toArray⟩]
theorem rep_V (w : World) (O : Nat → Prop) (v : Vl) : RepV w O (pVl v) (VV v) := by
  refine .agg _ _ (fun j => #[.int .i64 v.k, .int .i64 v.n, .string ⟨v.t.toArray⟩].getD j Go.undef) rfl (fun j y hj => ?_) (fun j y hj => ?_) fun j y hj => ?_
  all_goals
    match j, hj with
    | 0, hj => cases hj; first | rfl | exact .int _ _
    | 1, hj => cases hj; first | rfl | exact .int _ _
    | 2, hj => cases hj; first | rfl | exact .strOf _
theorem c0_bool {n : Nat} {f : FuncId} {x : Bool} {outs : List OV} (hp : pcall C n f [] = some ([vB x], outs)) (W : World) :
    Calls Tryd.prog f #[] W fun e W' => e = .returned (.bool x) ∧ Quiet W W' := by
  refine (call_flat names prims (vs := []) hp (W := W) (args := #[]) rfl (fun j v u h => by simp at h)).mono ?_
  rintro e W' ⟨v, rfl, ⟨O, hr⟩, hb⟩
  rw [hr.bool_inv]
  exact ⟨rfl, quiet_below hb⟩
theorem c1_int {n : Nat} {f : FuncId} {v : Vl} {x : Int} {outs : List OV} (hp : pcall C n f [vV v.k v.n v.t] = some ([vI x], outs)) (W : World) :
    Calls Tryd.prog f #[VV v] W fun e W' => e = .returned (.int .i64 x) ∧ Quiet W W' := by
  refine (call_flat names prims (vs := [pVl v]) hp (W := W) (args := #[VV v]) rfl (fun j p u h1 h2 => ?_)).mono ?_
  · match j, h1, h2 with
    | 0, h1, h2 => cases h1; cases h2; exact rep_V _ _ _
  · rintro e W' ⟨v, rfl, ⟨O, hr⟩, hb⟩
    rw [hr.int_inv]
    exact ⟨rfl, quiet_below hb⟩
theorem c2_int {n : Nat} {f : FuncId} {a b : Vl} {x : Int} {outs : List OV} (hp : pcall C n f [vV a.k a.n a.t, vV b.k b.n b.t] = some ([vI x], outs)) (W : World) :
    Calls Tryd.prog f #[VV a, VV b] W fun e W' => e = .returned (.int .i64 x) ∧ Quiet W W' := by
  refine (call_flat names prims (vs := [pVl a, pVl b]) hp (W := W) (args := #[VV a, VV b]) rfl (fun j p u h1 h2 => ?_)).mono ?_
  · match j, h1, h2 with
    | 0, h1, h2 => cases h1; cases h2; exact rep_V _ _ _
    | 1, h1, h2 => cases h1; cases h2; exact rep_V _ _ _
  · rintro e W' ⟨v, rfl, ⟨O, hr⟩, hb⟩
    rw [hr.int_inv]
    exact ⟨rfl, quiet_below hb⟩
theorem c1_str {n : Nat} {f : FuncId} {v : Vl} {x : List UInt8} {outs : List OV} (hp : pcall C n f [vV v.k v.n v.t] = some ([vS x], outs)) (W : World) :
    Calls Tryd.prog f #[VV v] W fun e W' => e = .returned (.string ⟨x.toArray⟩) ∧ Quiet W W' := by
  refine (call_flat names prims (vs := [pVl v]) hp (W := W) (args := #[VV v]) rfl (fun j p u h1 h2 => ?_)).mono ?_
  · match j, h1, h2 with
    | 0, h1, h2 => cases h1; cases h2; exact rep_V _ _ _
  · rintro e W' ⟨v, rfl, ⟨O, hr⟩, hb⟩
    obtain ⟨b, rfl, hb2⟩ := hr.str_inv
    refine ⟨?_, quiet_below hb⟩
    rw [← hb2]
theorem quiet_cell {w w' : World} {b j : Nat} {v : Value} (q : Quiet w w') (h : w.cell? ⟨b, j, none⟩ = some v) : w'.cell? ⟨b, j, none⟩ = some v := by
  have := cell_lt h
  rw [cell_same (w := w) (q.same b this)]
  exact h
theorem keepQ {w W W' : World} {a b : Vl} (q : Quiet W W') (h : Quiet w W ∧ W.cell? ⟨w.heap.size, 0, none⟩ = some (.int .i64 a.k) ∧ W.cell? ⟨w.heap.size, 1, none⟩ = some (.int .i64 a.n) ∧ W.cell? ⟨w.heap.size, 2, none⟩ = some (.string ⟨a.t.toArray⟩) ∧ W.cell? ⟨w.heap.size + 1, 0, none⟩ = some (.int .i64 b.k) ∧ W.cell? ⟨w.heap.size + 1, 1, none⟩ = some (.int .i64 b.n) ∧ W.cell? ⟨w.heap.size + 1, 2, none⟩ = some (.string ⟨b.t.toArray⟩)) : Quiet w W' ∧ W'.cell? ⟨w.heap.size, 0, none⟩ = some (.int .i64 a.k) ∧ W'.cell? ⟨w.heap.size, 1, none⟩ = some (.int .i64 a.n) ∧ W'.cell? ⟨w.heap.size, 2, none⟩ = some (.string ⟨a.t.toArray⟩) ∧ W'.cell? ⟨w.heap.size + 1, 0, none⟩ = some (.int .i64 b.k) ∧ W'.cell? ⟨w.heap.size + 1, 1, none⟩ = some (.int .i64 b.n) ∧ W'.cell? ⟨w.heap.size + 1, 2, none⟩ = some (.string ⟨b.t.toArray⟩) :=
  ⟨quiet_trans h.1 q, quiet_cell q h.2.1, quiet_cell q h.2.2.1, quiet_cell q h.2.2.2.1, quiet_cell q h.2.2.2.2.1, quiet_cell q h.2.2.2.2.2.1, quiet_cell q h.2.2.2.2.2.2⟩
theorem quiet_drew (w : World) : Quiet w w.drew := ⟨rfl, rfl, Nat.le_refl _, fun _ _ => rfl⟩
attribute [local go_sem ↓] Go.wp_at_zero Go.wp_at_succ
set_option maxHeartbeats 4000000 in
set_option maxRecDepth 100000 in
theorem tells_walk (a b : Vl) (w : World) (ia : inI a.n) (ha : a.t.length ≤ 1000000000) (htab : Lib.TabIs Tryd.prog w "internal/strconv.uint64pow10" .u64 Lib.pow10Tab) :
    Calls Tryd.prog 3 #[VV a, VV b] w fun e w' => e = .returned (.bool true) ∧ Quiet w w' := by
  have k1 := fun W => c0_bool (s10 0) W
  have k2 := fun W => c1_int (X13.s11 0 a.k a.n a.t) W
  have k3 := fun W => c1_int (v := a) (s12r 0 a.k a.n a.t) W
  have k4 := fun W => c2_int (a := a) (b := b) (X13.s41 0 a.k a.n a.t b.k b.n b.t) W
  have k5 := fun W => c2_int (s14c 0 a b) W
  have k6 := fun W (h : Lib.TabIs Tryd.prog W "internal/strconv.uint64pow10" .u64 Lib.pow10Tab) => lit_walk a.k a.n ⟨a.t.toArray⟩ W ia.1 ia.2 (by rw [Lib.size_eq]; simpa using ha) h
  have k7 := fun W => c1_str (s16l (a.t.length + 30) a (Nat.le_refl _) ia ha) W
  unfold VV at *
  go_enter Tryd.func3, Tryd.ntmps3
  go_wp2_with (first | (go_at_call 10; refine (k1 _).mono ?_; rintro e w1 ⟨rfl, q1⟩; dsimp only))
  have z0 := quiet_cell (v := .int .i64 a.k) (b := w.heap.size) (j := 0) q1 (by simp [go_sem])
  have z1 := quiet_cell (v := .int .i64 a.n) (b := w.heap.size) (j := 1) q1 (by simp [go_sem])
  have z2 := quiet_cell (v := .string ⟨a.t.toArray⟩) (b := w.heap.size) (j := 2) q1 (by simp [go_sem])
  have y0 := quiet_cell (v := .int .i64 b.k) (b := w.heap.size + 1) (j := 0) q1 (by simp [go_sem])
  have y1 := quiet_cell (v := .int .i64 b.n) (b := w.heap.size + 1) (j := 1) q1 (by simp [go_sem])
  have y2 := quiet_cell (v := .string ⟨b.t.toArray⟩) (b := w.heap.size + 1) (j := 2) q1 (by simp [go_sem])
  have hq : Quiet w w1 := quiet_trans (quiet_trans (quiet_alloc _ _) (quiet_alloc _ _)) q1
  go_region_held3 (fun w' => Quiet w w' ∧ w'.cell? ⟨w.heap.size, 0, none⟩ = some (.int .i64 a.k) ∧ w'.cell? ⟨w.heap.size, 1, none⟩ = some (.int .i64 a.n) ∧ w'.cell? ⟨w.heap.size, 2, none⟩ = some (.string ⟨a.t.toArray⟩) ∧ w'.cell? ⟨w.heap.size + 1, 0, none⟩ = some (.int .i64 b.k) ∧ w'.cell? ⟨w.heap.size + 1, 1, none⟩ = some (.int .i64 b.n) ∧ w'.cell? ⟨w.heap.size + 1, 2, none⟩ = some (.string ⟨b.t.toArray⟩)) (first | exact keepQ (by assumption) (by assumption) | exact keepQ (quiet_drew _) (by assumption) | exact keepQ (quiet_drew _) ⟨by assumption, by assumption, by assumption, by assumption, by assumption, by assumption, by assumption⟩ | exact ⟨by assumption, by assumption, by assumption, by assumption, by assumption, by assumption, by assumption⟩) (first | (go_at_call 11; refine (k2 _).mono ?_; rintro e w2 ⟨rfl, q2⟩; dsimp only) | (go_at_call 12; refine (k3 _).mono ?_; rintro e w3 ⟨rfl, q3⟩; dsimp only) | (go_at_call 13; refine (k4 _).mono ?_; rintro e w4 ⟨rfl, q4⟩; dsimp only) | (go_at_call 14; refine (k5 _).mono ?_; rintro e w5 ⟨rfl, q5⟩; dsimp only) | (go_at_call 15; refine (k6 _ (tab_quiet htab (And.left (by assumption)))).mono ?_; rintro e w6 ⟨rfl, q6⟩; dsimp only) | (go_at_call 16; refine (k7 _).mono ?_; rintro e w7 ⟨rfl, q7⟩; dsimp only))
  rename_i hh
  go_wp2
  go_ret
  exact ⟨rfl, hh.1⟩
end Go.Proofs.YtgcjhapomljekaaDoor

