/- What the functions answer, and the laws. -/
import Derived.Test.YtnieankaikhmnaaCtx

set_option linter.unusedVariables false

set_option linter.unusedSimpArgs false

set_option linter.unusedSectionVars false

open Go Go.Ev

set_option linter.unusedVariables false

set_option maxRecDepth 100000

namespace Go.Proofs.Ytnieankaikhmnaa

noncomputable def f3_vestrylaw14_BtreeRanges.l0.step (rec : Rec) (n : Nat) (self_l0 : List PV → List PV → List PV → List PV → List PV → Int → List PV → Int → Option (List OV × List OV)) (x0 : List PV) (x1 : List PV) (x2 : List PV) (x3 : List PV) (x4 : List PV) (x5 : Int) (x6 : List PV) (x7 : Int) : Option (List OV × List OV) :=
  ifB (decide (x7 < ((List.length x6 : Nat) : Int)))
  (needB (decide ((0 : Int) ≤ x7)) <|
  needB (decide (x7 < ((List.length x6 : Nat) : Int))) <|
  needB (hasT Go.Proofs.Try.prog 33 (nthP x6 (Int.toNat x7))) <|
  callB (rec 11 [OV.flat (FV.val (PV.agg [PV.sl none x0, PV.sl none x1, PV.bool true])), OV.flat (FV.val (PV.sl none (PV.toL (List.headD (PV.cells (nthP x6 (Int.toNat x7))) PV.undef))))]) fun r9 => needB (okOs Go.Proofs.Try.prog [4] [] (Prod.fst r9)) <|
  ifB (PV.toB (FV.pv (OV.fv (List.headD (Prod.fst r9) (OV.flat FV.gone)))))
  (ifB (decide (x5 ≥ ((List.length x4 : Nat) : Int)))
  (some ([OV.flat (FV.val (PV.bool false))], []))
  (needB (decide ((0 : Int) ≤ x5)) <|
  needB (decide (x5 < ((List.length x4 : Nat) : Int))) <|
  needB (hasT Go.Proofs.Try.prog 33 (nthP x4 (Int.toNat x5))) <|
  needB (List.all (PV.toL (List.headD (PV.cells (nthP x4 (Int.toNat x5))) PV.undef)) isByte) <|
  needB (decide ((0 : Int) ≤ x7)) <|
  needB (decide (x7 < ((List.length x6 : Nat) : Int))) <|
  needB (hasT Go.Proofs.Try.prog 33 (nthP x6 (Int.toNat x7))) <|
  needB (List.all (PV.toL (List.headD (PV.cells (nthP x6 (Int.toNat x7))) PV.undef)) isByte) <|
  ifB (!((List.map u8Of (PV.toL (List.headD (PV.cells (nthP x4 (Int.toNat x5))) PV.undef))) == (List.map u8Of (PV.toL (List.headD (PV.cells (nthP x6 (Int.toNat x7))) PV.undef)))))
  (some ([OV.flat (FV.val (PV.bool false))], []))
  (self_l0 x0 x1 x2 x3 x4 (IntKind.wrap .i64 (x5 + (1 : Int))) x6 (IntKind.wrap .i64 (x7 + (1 : Int))))))
  (self_l0 x0 x1 x2 x3 x4 x5 x6 (IntKind.wrap .i64 (x7 + (1 : Int)))))
  (ifB (x5 == ((List.length x4 : Nat) : Int))
  (needB (Nat.ble ((List.length ([] : List PV) + List.length x2) * 48) 140737488355328) <|
  needB (Nat.ble (List.length ([] : List PV) + List.length x2) 9223372036854775807) <|
  needB (Nat.ble ((List.length ([] ++ x2) + List.length x3) * 48) 140737488355328) <|
  needB (Nat.ble (List.length ([] ++ x2) + List.length x3) 9223372036854775807) <|
  callB (rec 12 [OV.flat (FV.val (PV.sl (some 2) (([] ++ x2) ++ x3))), OV.flat (FV.val (PV.sl (some 2) x4))]) fun r10 => needB (okOs Go.Proofs.Try.prog [4] [] (Prod.fst r10)) <|
  some ([OV.flat (FV.val (PV.bool (PV.toB (FV.pv (OV.fv (List.headD (Prod.fst r10) (OV.flat FV.gone)))))))], []))
  (some ([OV.flat (FV.val (PV.bool false))], [])))

noncomputable def f3_vestrylaw14_BtreeRanges.l0 (rec : Rec) (n : Nat) : Nat → List PV → List PV → List PV → List PV → List PV → Int → List PV → Int → Option (List OV × List OV)
  | 0, _, _, _, _, _, _, _, _ => none
  | m + 1, x0, x1, x2, x3, x4, x5, x6, x7 => f3_vestrylaw14_BtreeRanges.l0.step rec n (f3_vestrylaw14_BtreeRanges.l0 rec n m) x0 x1 x2 x3 x4 x5 x6 x7

theorem f3_vestrylaw14_BtreeRanges.l0_eq (rec : Rec) (n : Nat) : ∀ (m : Nat) (x0 : List PV) (x1 : List PV) (x2 : List PV) (x3 : List PV) (x4 : List PV) (x5 : Int) (x6 : List PV) (x7 : Int), loopAt C rec n 3 [1, 1, 1, 1, 1, 1, 1, 1, 1, 1, 0, 1, 0] [] m [(1, SV.home (OV.flat (FV.val (PV.sl none x0)))), (3, SV.home (OV.flat (FV.val (PV.sl none x1)))), (12, SV.home (OV.flat (FV.val (PV.sl (some 2) x2)))), (13, SV.home (OV.flat (FV.val (PV.sl (some 2) x3)))), (14, SV.home (OV.flat (FV.val (PV.sl (some 2) x4)))), (15, SV.home (OV.flat (FV.val (PV.int .i64 x5)))), (16, SV.home (OV.flat (FV.val (PV.sl (some 2) x6)))), (17, SV.home (OV.flat (FV.val (PV.int .i64 x7))))] = f3_vestrylaw14_BtreeRanges.l0 rec n m x0 x1 x2 x3 x4 x5 x6 x7
  | 0, x0, x1, x2, x3, x4, x5, x6, x7 => by kernel_rfl
  | m + 1, x0, x1, x2, x3, x4, x5, x6, x7 => by
    have ih : (fun x0 x1 x2 x3 x4 x5 x6 x7 => loopAt C rec n 3 [1, 1, 1, 1, 1, 1, 1, 1, 1, 1, 0, 1, 0] [] m [(1, SV.home (OV.flat (FV.val (PV.sl none x0)))), (3, SV.home (OV.flat (FV.val (PV.sl none x1)))), (12, SV.home (OV.flat (FV.val (PV.sl (some 2) x2)))), (13, SV.home (OV.flat (FV.val (PV.sl (some 2) x3)))), (14, SV.home (OV.flat (FV.val (PV.sl (some 2) x4)))), (15, SV.home (OV.flat (FV.val (PV.int .i64 x5)))), (16, SV.home (OV.flat (FV.val (PV.sl (some 2) x6)))), (17, SV.home (OV.flat (FV.val (PV.int .i64 x7))))]) = f3_vestrylaw14_BtreeRanges.l0 rec n m := funext fun x0 => funext fun x1 => funext fun x2 => funext fun x3 => funext fun x4 => funext fun x5 => funext fun x6 => funext fun x7 => f3_vestrylaw14_BtreeRanges.l0_eq rec n m x0 x1 x2 x3 x4 x5 x6 x7
    exact (show loopAt C rec n 3 [1, 1, 1, 1, 1, 1, 1, 1, 1, 1, 0, 1, 0] [] (m + 1) [(1, SV.home (OV.flat (FV.val (PV.sl none x0)))), (3, SV.home (OV.flat (FV.val (PV.sl none x1)))), (12, SV.home (OV.flat (FV.val (PV.sl (some 2) x2)))), (13, SV.home (OV.flat (FV.val (PV.sl (some 2) x3)))), (14, SV.home (OV.flat (FV.val (PV.sl (some 2) x4)))), (15, SV.home (OV.flat (FV.val (PV.int .i64 x5)))), (16, SV.home (OV.flat (FV.val (PV.sl (some 2) x6)))), (17, SV.home (OV.flat (FV.val (PV.int .i64 x7))))] = f3_vestrylaw14_BtreeRanges.l0.step rec n (fun x0 x1 x2 x3 x4 x5 x6 x7 => loopAt C rec n 3 [1, 1, 1, 1, 1, 1, 1, 1, 1, 1, 0, 1, 0] [] m [(1, SV.home (OV.flat (FV.val (PV.sl none x0)))), (3, SV.home (OV.flat (FV.val (PV.sl none x1)))), (12, SV.home (OV.flat (FV.val (PV.sl (some 2) x2)))), (13, SV.home (OV.flat (FV.val (PV.sl (some 2) x3)))), (14, SV.home (OV.flat (FV.val (PV.sl (some 2) x4)))), (15, SV.home (OV.flat (FV.val (PV.int .i64 x5)))), (16, SV.home (OV.flat (FV.val (PV.sl (some 2) x6)))), (17, SV.home (OV.flat (FV.val (PV.int .i64 x7))))]) x0 x1 x2 x3 x4 x5 x6 x7 from by kernel_rfl).trans (by rw [ih]; rfl)

noncomputable def f3_vestrylaw14_BtreeRanges.pre (rec : Rec) (n : Nat) (l0 : List PV → List PV → List PV → List PV → List PV → Int → List PV → Int → Option (List OV × List OV)) (a0 : List PV) (a1 : List PV) (a2 : List PV) (a3 : List PV) : Option (List OV × List OV) :=
  callB (rec 8 []) fun r1 => needB (okOs Go.Proofs.Try.prog [4] [] (Prod.fst r1)) <|
  callB (rec 9 [OV.flat (FV.val (PV.sl (some 6) a0))]) fun r2 => needB (okOs Go.Proofs.Try.prog [25] [.b [false]] (Prod.fst r2)) <|
  ifB (!(PV.toB (FV.pv (OV.fv (List.headD (Prod.fst r1) (OV.flat FV.gone))))))
  (some ([OV.flat (FV.val (PV.bool false))], []))
  (needB (List.all a2 isByte) <|
  needB (List.all a1 isByte) <|
  ifB (Op.bytesLess (List.map u8Of a2) (List.map u8Of a1))
  (callB (rec 10 [OV.cont .box [FV.val (PV.ptr (some 3) (PV.deref (FV.pv (List.headD (OV.cells (List.headD (Prod.fst r2) (OV.flat FV.gone))) FV.gone))))], OV.flat (FV.val (PV.agg [PV.sl none a2, PV.sl none a1, PV.bool true]))]) fun r3 => needB (okOs Go.Proofs.Try.prog [27] [] (Prod.fst r3)) <|
  needB (okOuts Go.Proofs.Try.prog [25, 30] [.io (.b [false]), .ro] (Prod.snd r3)) <|
  ifB (((List.length (PV.toL (FV.pv (OV.fv (List.headD (Prod.fst r3) (OV.flat FV.gone))))) : Nat) : Int) == (0 : Int))
  (some ([OV.flat (FV.val (PV.bool true))], []))
  (needB (List.all a2 isByte) <|
  needB (List.all a1 isByte) <|
  some ([OV.flat (FV.val (PV.bool (Op.bytesLess (List.map u8Of a2) (List.map u8Of a1))))], [])))
  (needB (List.all a3 isByte) <|
  needB (List.all a2 isByte) <|
  ifB (Op.bytesLess (List.map u8Of a3) (List.map u8Of a2))
  (callB (rec 10 [OV.cont .box [FV.val (PV.ptr (some 3) (PV.deref (FV.pv (List.headD (OV.cells (List.headD (Prod.fst r2) (OV.flat FV.gone))) FV.gone))))], OV.flat (FV.val (PV.agg [PV.sl none a2, PV.sl none a1, PV.bool true]))]) fun r4 => needB (okOs Go.Proofs.Try.prog [27] [] (Prod.fst r4)) <|
  needB (okOuts Go.Proofs.Try.prog [25, 30] [.io (.b [false]), .ro] (Prod.snd r4)) <|
  ifB (((List.length (PV.toL (FV.pv (OV.fv (List.headD (Prod.fst r4) (OV.flat FV.gone))))) : Nat) : Int) == (0 : Int))
  (some ([OV.flat (FV.val (PV.bool true))], []))
  (needB (List.all a2 isByte) <|
  needB (List.all a1 isByte) <|
  some ([OV.flat (FV.val (PV.bool (Op.bytesLess (List.map u8Of a2) (List.map u8Of a1))))], [])))
  (callB (rec 10 [OV.cont .box [FV.val (PV.ptr (some 3) (PV.deref (FV.pv (List.headD (OV.cells (List.headD (Prod.fst r2) (OV.flat FV.gone))) FV.gone))))], OV.flat (FV.val (PV.agg [PV.sl none a1, PV.sl none a2, PV.bool true]))]) fun r5 => needB (okOs Go.Proofs.Try.prog [27] [] (Prod.fst r5)) <|
  needB (okOuts Go.Proofs.Try.prog [25, 30] [.io (.b [false]), .ro] (Prod.snd r5)) <|
  callB (rec 10 [OV.cont .box [FV.val (PV.ptr (some 3) (PV.deref (FV.pv (List.headD (OV.cells (List.headD (Prod.snd r5) (OV.flat FV.gone))) FV.gone))))], OV.flat (FV.val (PV.agg [PV.sl none a2, PV.sl none a3, PV.bool true]))]) fun r6 => needB (okOs Go.Proofs.Try.prog [27] [] (Prod.fst r6)) <|
  needB (okOuts Go.Proofs.Try.prog [25, 30] [.io (.b [false]), .ro] (Prod.snd r6)) <|
  callB (rec 10 [OV.cont .box [FV.val (PV.ptr (some 3) (PV.deref (FV.pv (List.headD (OV.cells (List.headD (Prod.snd r6) (OV.flat FV.gone))) FV.gone))))], OV.flat (FV.val (PV.agg [PV.sl none a1, PV.sl none a3, PV.bool true]))]) fun r7 => needB (okOs Go.Proofs.Try.prog [27] [] (Prod.fst r7)) <|
  needB (okOuts Go.Proofs.Try.prog [25, 30] [.io (.b [false]), .ro] (Prod.snd r7)) <|
  callB (rec 10 [OV.cont .box [FV.val (PV.ptr (some 3) (PV.deref (FV.pv (List.headD (OV.cells (List.headD (Prod.snd r7) (OV.flat FV.gone))) FV.gone))))], OV.flat (FV.val (PV.agg [PV.sl none [], PV.sl none [], PV.bool false]))]) fun r8 => needB (okOs Go.Proofs.Try.prog [27] [] (Prod.fst r8)) <|
  needB (okOuts Go.Proofs.Try.prog [25, 30] [.io (.b [false]), .ro] (Prod.snd r8)) <|
  l0 a1 a3 (PV.toL (FV.pv (OV.fv (List.headD (Prod.fst r5) (OV.flat FV.gone))))) (PV.toL (FV.pv (OV.fv (List.headD (Prod.fst r6) (OV.flat FV.gone))))) (PV.toL (FV.pv (OV.fv (List.headD (Prod.fst r7) (OV.flat FV.gone))))) (0 : Int) (PV.toL (FV.pv (OV.fv (List.headD (Prod.fst r8) (OV.flat FV.gone))))) (0 : Int))))

noncomputable def f3_vestrylaw14_BtreeRanges (rec : Rec) (n : Nat) (a0 : List PV) (a1 : List PV) (a2 : List PV) (a3 : List PV) : Option (List OV × List OV) := f3_vestrylaw14_BtreeRanges.pre rec n (f3_vestrylaw14_BtreeRanges.l0 rec n n) a0 a1 a2 a3

theorem f3_vestrylaw14_BtreeRanges_eq (rec : Rec) (n : Nat) (a0 : List PV) (a1 : List PV) (a2 : List PV) (a3 : List PV) : callBody C rec n 3 [OV.flat (FV.val (PV.sl (some 6) a0)), OV.flat (FV.val (PV.sl none a1)), OV.flat (FV.val (PV.sl none a2)), OV.flat (FV.val (PV.sl none a3))] = f3_vestrylaw14_BtreeRanges rec n a0 a1 a2 a3 := by
  have i0 : (fun x0 x1 x2 x3 x4 x5 x6 x7 => loopAt C rec n 3 [1, 1, 1, 1, 1, 1, 1, 1, 1, 1, 0, 1, 0] [] n [(1, SV.home (OV.flat (FV.val (PV.sl none x0)))), (3, SV.home (OV.flat (FV.val (PV.sl none x1)))), (12, SV.home (OV.flat (FV.val (PV.sl (some 2) x2)))), (13, SV.home (OV.flat (FV.val (PV.sl (some 2) x3)))), (14, SV.home (OV.flat (FV.val (PV.sl (some 2) x4)))), (15, SV.home (OV.flat (FV.val (PV.int .i64 x5)))), (16, SV.home (OV.flat (FV.val (PV.sl (some 2) x6)))), (17, SV.home (OV.flat (FV.val (PV.int .i64 x7))))]) = f3_vestrylaw14_BtreeRanges.l0 rec n n := funext fun x0 => funext fun x1 => funext fun x2 => funext fun x3 => funext fun x4 => funext fun x5 => funext fun x6 => funext fun x7 => f3_vestrylaw14_BtreeRanges.l0_eq rec n n x0 x1 x2 x3 x4 x5 x6 x7
  exact (show callBody C rec n 3 [OV.flat (FV.val (PV.sl (some 6) a0)), OV.flat (FV.val (PV.sl none a1)), OV.flat (FV.val (PV.sl none a2)), OV.flat (FV.val (PV.sl none a3))] = f3_vestrylaw14_BtreeRanges.pre rec n (fun x0 x1 x2 x3 x4 x5 x6 x7 => loopAt C rec n 3 [1, 1, 1, 1, 1, 1, 1, 1, 1, 1, 0, 1, 0] [] n [(1, SV.home (OV.flat (FV.val (PV.sl none x0)))), (3, SV.home (OV.flat (FV.val (PV.sl none x1)))), (12, SV.home (OV.flat (FV.val (PV.sl (some 2) x2)))), (13, SV.home (OV.flat (FV.val (PV.sl (some 2) x3)))), (14, SV.home (OV.flat (FV.val (PV.sl (some 2) x4)))), (15, SV.home (OV.flat (FV.val (PV.int .i64 x5)))), (16, SV.home (OV.flat (FV.val (PV.sl (some 2) x6)))), (17, SV.home (OV.flat (FV.val (PV.int .i64 x7))))]) a0 a1 a2 a3 from by kernel_rfl).trans (by rw [i0]; rfl)

noncomputable def f4_vestrylaw14_BtreeGets (rec : Rec) (n : Nat) (a0 : List PV) (a1 : List PV) (a2 : List PV) (a3 : List PV) : Option (List OV × List OV) :=
  callB (rec 8 []) fun r1 => needB (okOs Go.Proofs.Try.prog [4] [] (Prod.fst r1)) <|
  callB (rec 9 [OV.flat (FV.val (PV.sl (some 6) a0))]) fun r2 => needB (okOs Go.Proofs.Try.prog [25] [.b [false]] (Prod.fst r2)) <|
  ifB (!(PV.toB (FV.pv (OV.fv (List.headD (Prod.fst r1) (OV.flat FV.gone))))))
  (some ([OV.flat (FV.val (PV.bool false))], []))
  (callB (rec 13 [OV.cont .box [FV.val (PV.ptr (some 3) (PV.deref (FV.pv (List.headD (OV.cells (List.headD (Prod.fst r2) (OV.flat FV.gone))) FV.gone))))], OV.flat (FV.val (PV.sl none a3))]) fun r3 => needB (okOs Go.Proofs.Try.prog [23, 4] [.o, .v] (Prod.fst r3)) <|
  needB (okOuts Go.Proofs.Try.prog [25, 23] [.io (.b [false]), .ro] (Prod.snd r3)) <|
  callB (rec 14 [OV.cont .box [FV.val (PV.ptr (some 3) (PV.deref (FV.pv (List.headD (OV.cells (List.headD (Prod.snd r3) (OV.flat FV.gone))) FV.gone))))]]) fun r4 => needB (okOs Go.Proofs.Try.prog [3] [] (Prod.fst r4)) <|
  needB (okOuts Go.Proofs.Try.prog [25] [.io (.b [false])] (Prod.snd r4)) <|
  callB (rec 13 [OV.cont .box [FV.val (PV.ptr (some 3) (PV.deref (FV.pv (List.headD (OV.cells (List.headD (Prod.snd r4) (OV.flat FV.gone))) FV.gone))))], OV.flat (FV.val (PV.sl none a1))]) fun r5 => needB (okOs Go.Proofs.Try.prog [23, 4] [.o, .v] (Prod.fst r5)) <|
  needB (okOuts Go.Proofs.Try.prog [25, 23] [.io (.b [false]), .ro] (Prod.snd r5)) <|
  callB (rec 15 [OV.cont .box [FV.val (PV.ptr (some 3) (PV.deref (FV.pv (List.headD (OV.cells (List.headD (Prod.snd r5) (OV.flat FV.gone))) FV.gone))))], OV.flat (FV.val (PV.sl none a1)), OV.flat (FV.val (PV.sl none a2))]) fun r6 => needB (okOs Go.Proofs.Try.prog [4] [] (Prod.fst r6)) <|
  needB (okOuts Go.Proofs.Try.prog [25, 23, 23] [.io (.b [false]), .ro, .ro] (Prod.snd r6)) <|
  callB (rec 13 [OV.cont .box [FV.val (PV.ptr (some 3) (PV.deref (FV.pv (List.headD (OV.cells (List.headD (Prod.snd r6) (OV.flat FV.gone))) FV.gone))))], OV.flat (FV.val (PV.sl none a1))]) fun r7 => needB (okOs Go.Proofs.Try.prog [23, 4] [.o, .v] (Prod.fst r7)) <|
  needB (okOuts Go.Proofs.Try.prog [25, 23] [.io (.b [false]), .ro] (Prod.snd r7)) <|
  ifB (!((PV.toB (FV.pv (OV.fv (List.headD (Prod.fst r6) (OV.flat FV.gone))))) == (PV.toB (FV.pv (OV.fv (List.headD (List.tail (Prod.fst r5)) (OV.flat FV.gone)))))))
  (some ([OV.flat (FV.val (PV.bool false))], []))
  (ifB (!(PV.toB (FV.pv (OV.fv (List.headD (List.tail (Prod.fst r7)) (OV.flat FV.gone))))))
  (some ([OV.flat (FV.val (PV.bool false))], []))
  (needB (List.all (FV.xs (OV.fv (List.headD (Prod.fst r7) (OV.flat FV.gone)))) isByte) <|
  needB (List.all a2 isByte) <|
  ifB (!((List.map u8Of (FV.xs (OV.fv (List.headD (Prod.fst r7) (OV.flat FV.gone))))) == (List.map u8Of a2)))
  (some ([OV.flat (FV.val (PV.bool false))], []))
  (ifB (!(PV.toB (FV.pv (OV.fv (List.headD (List.tail (Prod.fst r5)) (OV.flat FV.gone))))))
  (callB (rec 14 [OV.cont .box [FV.val (PV.ptr (some 3) (PV.deref (FV.pv (List.headD (OV.cells (List.headD (Prod.snd r7) (OV.flat FV.gone))) FV.gone))))]]) fun r8 => needB (okOs Go.Proofs.Try.prog [3] [] (Prod.fst r8)) <|
  needB (okOuts Go.Proofs.Try.prog [25] [.io (.b [false])] (Prod.snd r8)) <|
  ifB (PV.toI (FV.pv (OV.fv (List.headD (Prod.fst r8) (OV.flat FV.gone)))) != IntKind.wrap .i64 (PV.toI (FV.pv (OV.fv (List.headD (Prod.fst r4) (OV.flat FV.gone)))) + (1 : Int)))
  (some ([OV.flat (FV.val (PV.bool false))], []))
  (ifB (PV.toB (FV.pv (OV.fv (List.headD (List.tail (Prod.fst r5)) (OV.flat FV.gone)))))
  (callB (rec 14 [OV.cont .box [FV.val (PV.ptr (some 3) (PV.deref (FV.pv (List.headD (OV.cells (List.headD (Prod.snd r8) (OV.flat FV.gone))) FV.gone))))]]) fun r9 => needB (okOs Go.Proofs.Try.prog [3] [] (Prod.fst r9)) <|
  needB (okOuts Go.Proofs.Try.prog [25] [.io (.b [false])] (Prod.snd r9)) <|
  ifB (PV.toI (FV.pv (OV.fv (List.headD (Prod.fst r9) (OV.flat FV.gone)))) != PV.toI (FV.pv (OV.fv (List.headD (Prod.fst r4) (OV.flat FV.gone)))))
  (some ([OV.flat (FV.val (PV.bool false))], []))
  (callB (rec 16 [OV.cont .box [FV.val (PV.ptr (some 3) (PV.deref (FV.pv (List.headD (OV.cells (List.headD (Prod.snd r9) (OV.flat FV.gone))) FV.gone))))], OV.flat (FV.val (PV.sl none a1))]) fun r10 => needB (okOs Go.Proofs.Try.prog [4] [] (Prod.fst r10)) <|
  needB (okOuts Go.Proofs.Try.prog [25, 23] [.io (.b [false]), .ro] (Prod.snd r10)) <|
  callB (rec 13 [OV.cont .box [FV.val (PV.ptr (some 3) (PV.deref (FV.pv (List.headD (OV.cells (List.headD (Prod.snd r10) (OV.flat FV.gone))) FV.gone))))], OV.flat (FV.val (PV.sl none a1))]) fun r11 => needB (okOs Go.Proofs.Try.prog [23, 4] [.o, .v] (Prod.fst r11)) <|
  needB (okOuts Go.Proofs.Try.prog [25, 23] [.io (.b [false]), .ro] (Prod.snd r11)) <|
  callB (rec 13 [OV.cont .box [FV.val (PV.ptr (some 3) (PV.deref (FV.pv (List.headD (OV.cells (List.headD (Prod.snd r11) (OV.flat FV.gone))) FV.gone))))], OV.flat (FV.val (PV.sl none a3))]) fun r12 => needB (okOs Go.Proofs.Try.prog [23, 4] [.o, .v] (Prod.fst r12)) <|
  needB (okOuts Go.Proofs.Try.prog [25, 23] [.io (.b [false]), .ro] (Prod.snd r12)) <|
  needB (Nat.ble ((List.length ([] : List PV) + List.length a1) * 1) 140737488355328) <|
  needB (Nat.ble (List.length ([] : List PV) + List.length a1) 9223372036854775807) <|
  needB (Nat.ble ((List.length ([] ++ a1) + List.length [PV.int .u8 (0 : Int)]) * 1) 140737488355328) <|
  needB (Nat.ble (List.length ([] ++ a1) + List.length [PV.int .u8 (0 : Int)]) 9223372036854775807) <|
  callB (rec 10 [OV.cont .box [FV.val (PV.ptr (some 3) (PV.deref (FV.pv (List.headD (OV.cells (List.headD (Prod.snd r12) (OV.flat FV.gone))) FV.gone))))], OV.flat (FV.val (PV.agg [PV.sl none a1, PV.sl none (([] ++ a1) ++ [PV.int .u8 (0 : Int)]), PV.bool true]))]) fun r13 => needB (okOs Go.Proofs.Try.prog [27] [] (Prod.fst r13)) <|
  needB (okOuts Go.Proofs.Try.prog [25, 30] [.io (.b [false]), .ro] (Prod.snd r13)) <|
  ifB (PV.toB (FV.pv (OV.fv (List.headD (Prod.fst r10) (OV.flat FV.gone)))))
  (ifB (!(PV.toB (FV.pv (OV.fv (List.headD (List.tail (Prod.fst r11)) (OV.flat FV.gone))))))
  (ifB (((List.length (PV.toL (FV.pv (OV.fv (List.headD (Prod.fst r13) (OV.flat FV.gone))))) : Nat) : Int) == (0 : Int))
  (needB (List.all a3 isByte) <|
  needB (List.all a1 isByte) <|
  ifB ((List.map u8Of a3) == (List.map u8Of a1))
  (some ([OV.flat (FV.val (PV.bool true))], []))
  (ifB ((PV.toB (FV.pv (OV.fv (List.headD (List.tail (Prod.fst r12)) (OV.flat FV.gone))))) == (PV.toB (FV.pv (OV.fv (List.headD (List.tail (Prod.fst r3)) (OV.flat FV.gone))))))
  (needB (List.all (FV.xs (OV.fv (List.headD (Prod.fst r12) (OV.flat FV.gone)))) isByte) <|
  needB (List.all (FV.xs (OV.fv (List.headD (Prod.fst r3) (OV.flat FV.gone)))) isByte) <|
  some ([OV.flat (FV.val (PV.bool ((List.map u8Of (FV.xs (OV.fv (List.headD (Prod.fst r12) (OV.flat FV.gone))))) == (List.map u8Of (FV.xs (OV.fv (List.headD (Prod.fst r3) (OV.flat FV.gone))))))))], []))
  (some ([OV.flat (FV.val (PV.bool false))], []))))
  (some ([OV.flat (FV.val (PV.bool false))], [])))
  (some ([OV.flat (FV.val (PV.bool false))], [])))
  (some ([OV.flat (FV.val (PV.bool false))], []))))
  (callB (rec 16 [OV.cont .box [FV.val (PV.ptr (some 3) (PV.deref (FV.pv (List.headD (OV.cells (List.headD (Prod.snd r8) (OV.flat FV.gone))) FV.gone))))], OV.flat (FV.val (PV.sl none a1))]) fun r14 => needB (okOs Go.Proofs.Try.prog [4] [] (Prod.fst r14)) <|
  needB (okOuts Go.Proofs.Try.prog [25, 23] [.io (.b [false]), .ro] (Prod.snd r14)) <|
  callB (rec 13 [OV.cont .box [FV.val (PV.ptr (some 3) (PV.deref (FV.pv (List.headD (OV.cells (List.headD (Prod.snd r14) (OV.flat FV.gone))) FV.gone))))], OV.flat (FV.val (PV.sl none a1))]) fun r15 => needB (okOs Go.Proofs.Try.prog [23, 4] [.o, .v] (Prod.fst r15)) <|
  needB (okOuts Go.Proofs.Try.prog [25, 23] [.io (.b [false]), .ro] (Prod.snd r15)) <|
  callB (rec 13 [OV.cont .box [FV.val (PV.ptr (some 3) (PV.deref (FV.pv (List.headD (OV.cells (List.headD (Prod.snd r15) (OV.flat FV.gone))) FV.gone))))], OV.flat (FV.val (PV.sl none a3))]) fun r16 => needB (okOs Go.Proofs.Try.prog [23, 4] [.o, .v] (Prod.fst r16)) <|
  needB (okOuts Go.Proofs.Try.prog [25, 23] [.io (.b [false]), .ro] (Prod.snd r16)) <|
  needB (Nat.ble ((List.length ([] : List PV) + List.length a1) * 1) 140737488355328) <|
  needB (Nat.ble (List.length ([] : List PV) + List.length a1) 9223372036854775807) <|
  needB (Nat.ble ((List.length ([] ++ a1) + List.length [PV.int .u8 (0 : Int)]) * 1) 140737488355328) <|
  needB (Nat.ble (List.length ([] ++ a1) + List.length [PV.int .u8 (0 : Int)]) 9223372036854775807) <|
  callB (rec 10 [OV.cont .box [FV.val (PV.ptr (some 3) (PV.deref (FV.pv (List.headD (OV.cells (List.headD (Prod.snd r16) (OV.flat FV.gone))) FV.gone))))], OV.flat (FV.val (PV.agg [PV.sl none a1, PV.sl none (([] ++ a1) ++ [PV.int .u8 (0 : Int)]), PV.bool true]))]) fun r17 => needB (okOs Go.Proofs.Try.prog [27] [] (Prod.fst r17)) <|
  needB (okOuts Go.Proofs.Try.prog [25, 30] [.io (.b [false]), .ro] (Prod.snd r17)) <|
  ifB (PV.toB (FV.pv (OV.fv (List.headD (Prod.fst r14) (OV.flat FV.gone)))))
  (ifB (!(PV.toB (FV.pv (OV.fv (List.headD (List.tail (Prod.fst r15)) (OV.flat FV.gone))))))
  (ifB (((List.length (PV.toL (FV.pv (OV.fv (List.headD (Prod.fst r17) (OV.flat FV.gone))))) : Nat) : Int) == (0 : Int))
  (needB (List.all a3 isByte) <|
  needB (List.all a1 isByte) <|
  ifB ((List.map u8Of a3) == (List.map u8Of a1))
  (some ([OV.flat (FV.val (PV.bool true))], []))
  (ifB ((PV.toB (FV.pv (OV.fv (List.headD (List.tail (Prod.fst r16)) (OV.flat FV.gone))))) == (PV.toB (FV.pv (OV.fv (List.headD (List.tail (Prod.fst r3)) (OV.flat FV.gone))))))
  (needB (List.all (FV.xs (OV.fv (List.headD (Prod.fst r16) (OV.flat FV.gone)))) isByte) <|
  needB (List.all (FV.xs (OV.fv (List.headD (Prod.fst r3) (OV.flat FV.gone)))) isByte) <|
  some ([OV.flat (FV.val (PV.bool ((List.map u8Of (FV.xs (OV.fv (List.headD (Prod.fst r16) (OV.flat FV.gone))))) == (List.map u8Of (FV.xs (OV.fv (List.headD (Prod.fst r3) (OV.flat FV.gone))))))))], []))
  (some ([OV.flat (FV.val (PV.bool false))], []))))
  (some ([OV.flat (FV.val (PV.bool false))], [])))
  (some ([OV.flat (FV.val (PV.bool false))], [])))
  (some ([OV.flat (FV.val (PV.bool false))], [])))))
  (ifB (PV.toB (FV.pv (OV.fv (List.headD (List.tail (Prod.fst r5)) (OV.flat FV.gone)))))
  (callB (rec 14 [OV.cont .box [FV.val (PV.ptr (some 3) (PV.deref (FV.pv (List.headD (OV.cells (List.headD (Prod.snd r7) (OV.flat FV.gone))) FV.gone))))]]) fun r18 => needB (okOs Go.Proofs.Try.prog [3] [] (Prod.fst r18)) <|
  needB (okOuts Go.Proofs.Try.prog [25] [.io (.b [false])] (Prod.snd r18)) <|
  ifB (PV.toI (FV.pv (OV.fv (List.headD (Prod.fst r18) (OV.flat FV.gone)))) != PV.toI (FV.pv (OV.fv (List.headD (Prod.fst r4) (OV.flat FV.gone)))))
  (some ([OV.flat (FV.val (PV.bool false))], []))
  (callB (rec 16 [OV.cont .box [FV.val (PV.ptr (some 3) (PV.deref (FV.pv (List.headD (OV.cells (List.headD (Prod.snd r18) (OV.flat FV.gone))) FV.gone))))], OV.flat (FV.val (PV.sl none a1))]) fun r19 => needB (okOs Go.Proofs.Try.prog [4] [] (Prod.fst r19)) <|
  needB (okOuts Go.Proofs.Try.prog [25, 23] [.io (.b [false]), .ro] (Prod.snd r19)) <|
  callB (rec 13 [OV.cont .box [FV.val (PV.ptr (some 3) (PV.deref (FV.pv (List.headD (OV.cells (List.headD (Prod.snd r19) (OV.flat FV.gone))) FV.gone))))], OV.flat (FV.val (PV.sl none a1))]) fun r20 => needB (okOs Go.Proofs.Try.prog [23, 4] [.o, .v] (Prod.fst r20)) <|
  needB (okOuts Go.Proofs.Try.prog [25, 23] [.io (.b [false]), .ro] (Prod.snd r20)) <|
  callB (rec 13 [OV.cont .box [FV.val (PV.ptr (some 3) (PV.deref (FV.pv (List.headD (OV.cells (List.headD (Prod.snd r20) (OV.flat FV.gone))) FV.gone))))], OV.flat (FV.val (PV.sl none a3))]) fun r21 => needB (okOs Go.Proofs.Try.prog [23, 4] [.o, .v] (Prod.fst r21)) <|
  needB (okOuts Go.Proofs.Try.prog [25, 23] [.io (.b [false]), .ro] (Prod.snd r21)) <|
  needB (Nat.ble ((List.length ([] : List PV) + List.length a1) * 1) 140737488355328) <|
  needB (Nat.ble (List.length ([] : List PV) + List.length a1) 9223372036854775807) <|
  needB (Nat.ble ((List.length ([] ++ a1) + List.length [PV.int .u8 (0 : Int)]) * 1) 140737488355328) <|
  needB (Nat.ble (List.length ([] ++ a1) + List.length [PV.int .u8 (0 : Int)]) 9223372036854775807) <|
  callB (rec 10 [OV.cont .box [FV.val (PV.ptr (some 3) (PV.deref (FV.pv (List.headD (OV.cells (List.headD (Prod.snd r21) (OV.flat FV.gone))) FV.gone))))], OV.flat (FV.val (PV.agg [PV.sl none a1, PV.sl none (([] ++ a1) ++ [PV.int .u8 (0 : Int)]), PV.bool true]))]) fun r22 => needB (okOs Go.Proofs.Try.prog [27] [] (Prod.fst r22)) <|
  needB (okOuts Go.Proofs.Try.prog [25, 30] [.io (.b [false]), .ro] (Prod.snd r22)) <|
  ifB (PV.toB (FV.pv (OV.fv (List.headD (Prod.fst r19) (OV.flat FV.gone)))))
  (ifB (!(PV.toB (FV.pv (OV.fv (List.headD (List.tail (Prod.fst r20)) (OV.flat FV.gone))))))
  (ifB (((List.length (PV.toL (FV.pv (OV.fv (List.headD (Prod.fst r22) (OV.flat FV.gone))))) : Nat) : Int) == (0 : Int))
  (needB (List.all a3 isByte) <|
  needB (List.all a1 isByte) <|
  ifB ((List.map u8Of a3) == (List.map u8Of a1))
  (some ([OV.flat (FV.val (PV.bool true))], []))
  (ifB ((PV.toB (FV.pv (OV.fv (List.headD (List.tail (Prod.fst r21)) (OV.flat FV.gone))))) == (PV.toB (FV.pv (OV.fv (List.headD (List.tail (Prod.fst r3)) (OV.flat FV.gone))))))
  (needB (List.all (FV.xs (OV.fv (List.headD (Prod.fst r21) (OV.flat FV.gone)))) isByte) <|
  needB (List.all (FV.xs (OV.fv (List.headD (Prod.fst r3) (OV.flat FV.gone)))) isByte) <|
  some ([OV.flat (FV.val (PV.bool ((List.map u8Of (FV.xs (OV.fv (List.headD (Prod.fst r21) (OV.flat FV.gone))))) == (List.map u8Of (FV.xs (OV.fv (List.headD (Prod.fst r3) (OV.flat FV.gone))))))))], []))
  (some ([OV.flat (FV.val (PV.bool false))], []))))
  (some ([OV.flat (FV.val (PV.bool false))], [])))
  (some ([OV.flat (FV.val (PV.bool false))], [])))
  (some ([OV.flat (FV.val (PV.bool false))], []))))
  (callB (rec 16 [OV.cont .box [FV.val (PV.ptr (some 3) (PV.deref (FV.pv (List.headD (OV.cells (List.headD (Prod.snd r7) (OV.flat FV.gone))) FV.gone))))], OV.flat (FV.val (PV.sl none a1))]) fun r23 => needB (okOs Go.Proofs.Try.prog [4] [] (Prod.fst r23)) <|
  needB (okOuts Go.Proofs.Try.prog [25, 23] [.io (.b [false]), .ro] (Prod.snd r23)) <|
  callB (rec 13 [OV.cont .box [FV.val (PV.ptr (some 3) (PV.deref (FV.pv (List.headD (OV.cells (List.headD (Prod.snd r23) (OV.flat FV.gone))) FV.gone))))], OV.flat (FV.val (PV.sl none a1))]) fun r24 => needB (okOs Go.Proofs.Try.prog [23, 4] [.o, .v] (Prod.fst r24)) <|
  needB (okOuts Go.Proofs.Try.prog [25, 23] [.io (.b [false]), .ro] (Prod.snd r24)) <|
  callB (rec 13 [OV.cont .box [FV.val (PV.ptr (some 3) (PV.deref (FV.pv (List.headD (OV.cells (List.headD (Prod.snd r24) (OV.flat FV.gone))) FV.gone))))], OV.flat (FV.val (PV.sl none a3))]) fun r25 => needB (okOs Go.Proofs.Try.prog [23, 4] [.o, .v] (Prod.fst r25)) <|
  needB (okOuts Go.Proofs.Try.prog [25, 23] [.io (.b [false]), .ro] (Prod.snd r25)) <|
  needB (Nat.ble ((List.length ([] : List PV) + List.length a1) * 1) 140737488355328) <|
  needB (Nat.ble (List.length ([] : List PV) + List.length a1) 9223372036854775807) <|
  needB (Nat.ble ((List.length ([] ++ a1) + List.length [PV.int .u8 (0 : Int)]) * 1) 140737488355328) <|
  needB (Nat.ble (List.length ([] ++ a1) + List.length [PV.int .u8 (0 : Int)]) 9223372036854775807) <|
  callB (rec 10 [OV.cont .box [FV.val (PV.ptr (some 3) (PV.deref (FV.pv (List.headD (OV.cells (List.headD (Prod.snd r25) (OV.flat FV.gone))) FV.gone))))], OV.flat (FV.val (PV.agg [PV.sl none a1, PV.sl none (([] ++ a1) ++ [PV.int .u8 (0 : Int)]), PV.bool true]))]) fun r26 => needB (okOs Go.Proofs.Try.prog [27] [] (Prod.fst r26)) <|
  needB (okOuts Go.Proofs.Try.prog [25, 30] [.io (.b [false]), .ro] (Prod.snd r26)) <|
  ifB (PV.toB (FV.pv (OV.fv (List.headD (Prod.fst r23) (OV.flat FV.gone)))))
  (ifB (!(PV.toB (FV.pv (OV.fv (List.headD (List.tail (Prod.fst r24)) (OV.flat FV.gone))))))
  (ifB (((List.length (PV.toL (FV.pv (OV.fv (List.headD (Prod.fst r26) (OV.flat FV.gone))))) : Nat) : Int) == (0 : Int))
  (needB (List.all a3 isByte) <|
  needB (List.all a1 isByte) <|
  ifB ((List.map u8Of a3) == (List.map u8Of a1))
  (some ([OV.flat (FV.val (PV.bool true))], []))
  (ifB ((PV.toB (FV.pv (OV.fv (List.headD (List.tail (Prod.fst r25)) (OV.flat FV.gone))))) == (PV.toB (FV.pv (OV.fv (List.headD (List.tail (Prod.fst r3)) (OV.flat FV.gone))))))
  (needB (List.all (FV.xs (OV.fv (List.headD (Prod.fst r25) (OV.flat FV.gone)))) isByte) <|
  needB (List.all (FV.xs (OV.fv (List.headD (Prod.fst r3) (OV.flat FV.gone)))) isByte) <|
  some ([OV.flat (FV.val (PV.bool ((List.map u8Of (FV.xs (OV.fv (List.headD (Prod.fst r25) (OV.flat FV.gone))))) == (List.map u8Of (FV.xs (OV.fv (List.headD (Prod.fst r3) (OV.flat FV.gone))))))))], []))
  (some ([OV.flat (FV.val (PV.bool false))], []))))
  (some ([OV.flat (FV.val (PV.bool false))], [])))
  (some ([OV.flat (FV.val (PV.bool false))], [])))
  (some ([OV.flat (FV.val (PV.bool false))], []))))))))

theorem f4_vestrylaw14_BtreeGets_eq (rec : Rec) (n : Nat) (a0 : List PV) (a1 : List PV) (a2 : List PV) (a3 : List PV) : callBody C rec n 4 [OV.flat (FV.val (PV.sl (some 6) a0)), OV.flat (FV.val (PV.sl none a1)), OV.flat (FV.val (PV.sl none a2)), OV.flat (FV.val (PV.sl none a3))] = f4_vestrylaw14_BtreeGets rec n a0 a1 a2 a3 := by kernel_rfl

noncomputable def f6_vestrylaw14_BtreeClones.l1.step (rec : Rec) (n : Nat) (self_l1 : List PV → PV → PV → List PV → Int → Option (List OV × List OV)) (x0 : List PV) (x1 : PV) (x2 : PV) (x3 : List PV) (x4 : Int) : Option (List OV × List OV) :=
  ifB (decide (x4 < ((List.length x0 : Nat) : Int)))
  (ifB (decide (x4 < (40 : Int)))
  (needB (decide ((0 : Int) ≤ x4)) <|
  needB (decide (x4 < ((List.length x0 : Nat) : Int))) <|
  needB (hasT Go.Proofs.Try.prog 46 (nthP x0 (Int.toNat x4))) <|
  ifB (PV.toI (List.headD (PV.cells (nthP x0 (Int.toNat x4))) PV.undef) == (0 : Int))
  (needB (decide ((0 : Int) ≤ x4)) <|
  needB (decide (x4 < ((List.length x0 : Nat) : Int))) <|
  needB (hasT Go.Proofs.Try.prog 46 (nthP x0 (Int.toNat x4))) <|
  needB (decide ((0 : Int) ≤ x4)) <|
  needB (decide (x4 < ((List.length x0 : Nat) : Int))) <|
  needB (hasT Go.Proofs.Try.prog 46 (nthP x0 (Int.toNat x4))) <|
  callB (rec 15 [OV.cont .box [FV.val (PV.ptr (some 3) x1)], OV.flat (FV.val (PV.sl none (PV.toL (List.headD (List.tail (PV.cells (nthP x0 (Int.toNat x4)))) PV.undef)))), OV.flat (FV.val (PV.sl none (PV.toL (List.headD (List.tail (List.tail (PV.cells (nthP x0 (Int.toNat x4))))) PV.undef))))]) fun r10 => needB (okOs Go.Proofs.Try.prog [4] [] (Prod.fst r10)) <|
  needB (okOuts Go.Proofs.Try.prog [25, 23, 23] [.io (.b [false]), .ro, .ro] (Prod.snd r10)) <|
  self_l1 x0 (PV.deref (FV.pv (List.headD (OV.cells (List.headD (Prod.snd r10) (OV.flat FV.gone))) FV.gone))) x2 x3 (IntKind.wrap .i64 (x4 + (1 : Int))))
  (needB (decide ((0 : Int) ≤ x4)) <|
  needB (decide (x4 < ((List.length x0 : Nat) : Int))) <|
  needB (hasT Go.Proofs.Try.prog 46 (nthP x0 (Int.toNat x4))) <|
  callB (rec 16 [OV.cont .box [FV.val (PV.ptr (some 3) x1)], OV.flat (FV.val (PV.sl none (PV.toL (List.headD (List.tail (PV.cells (nthP x0 (Int.toNat x4)))) PV.undef))))]) fun r11 => needB (okOs Go.Proofs.Try.prog [4] [] (Prod.fst r11)) <|
  needB (okOuts Go.Proofs.Try.prog [25, 23] [.io (.b [false]), .ro] (Prod.snd r11)) <|
  self_l1 x0 (PV.deref (FV.pv (List.headD (OV.cells (List.headD (Prod.snd r11) (OV.flat FV.gone))) FV.gone))) x2 x3 (IntKind.wrap .i64 (x4 + (1 : Int)))))
  (callB (rec 10 [OV.cont .box [FV.val (PV.ptr (some 3) x2)], OV.flat (FV.val (PV.agg [PV.sl none [], PV.sl none [], PV.bool false]))]) fun r12 => needB (okOs Go.Proofs.Try.prog [27] [] (Prod.fst r12)) <|
  needB (okOuts Go.Proofs.Try.prog [25, 30] [.io (.b [false]), .ro] (Prod.snd r12)) <|
  callB (rec 12 [OV.flat (FV.val (PV.sl (some 2) (PV.toL (FV.pv (OV.fv (List.headD (Prod.fst r12) (OV.flat FV.gone))))))), OV.flat (FV.val (PV.sl (some 2) x3))]) fun r13 => needB (okOs Go.Proofs.Try.prog [4] [] (Prod.fst r13)) <|
  ifB (PV.toB (FV.pv (OV.fv (List.headD (Prod.fst r13) (OV.flat FV.gone)))))
  (callB (rec 14 [OV.cont .box [FV.val (PV.ptr (some 3) (PV.deref (FV.pv (List.headD (OV.cells (List.headD (Prod.snd r12) (OV.flat FV.gone))) FV.gone))))]]) fun r14 => needB (okOs Go.Proofs.Try.prog [3] [] (Prod.fst r14)) <|
  needB (okOuts Go.Proofs.Try.prog [25] [.io (.b [false])] (Prod.snd r14)) <|
  some ([OV.flat (FV.val (PV.bool (PV.toI (FV.pv (OV.fv (List.headD (Prod.fst r14) (OV.flat FV.gone)))) == ((List.length x3 : Nat) : Int))))], []))
  (some ([OV.flat (FV.val (PV.bool false))], []))))
  (callB (rec 10 [OV.cont .box [FV.val (PV.ptr (some 3) x2)], OV.flat (FV.val (PV.agg [PV.sl none [], PV.sl none [], PV.bool false]))]) fun r15 => needB (okOs Go.Proofs.Try.prog [27] [] (Prod.fst r15)) <|
  needB (okOuts Go.Proofs.Try.prog [25, 30] [.io (.b [false]), .ro] (Prod.snd r15)) <|
  callB (rec 12 [OV.flat (FV.val (PV.sl (some 2) (PV.toL (FV.pv (OV.fv (List.headD (Prod.fst r15) (OV.flat FV.gone))))))), OV.flat (FV.val (PV.sl (some 2) x3))]) fun r16 => needB (okOs Go.Proofs.Try.prog [4] [] (Prod.fst r16)) <|
  ifB (PV.toB (FV.pv (OV.fv (List.headD (Prod.fst r16) (OV.flat FV.gone)))))
  (callB (rec 14 [OV.cont .box [FV.val (PV.ptr (some 3) (PV.deref (FV.pv (List.headD (OV.cells (List.headD (Prod.snd r15) (OV.flat FV.gone))) FV.gone))))]]) fun r17 => needB (okOs Go.Proofs.Try.prog [3] [] (Prod.fst r17)) <|
  needB (okOuts Go.Proofs.Try.prog [25] [.io (.b [false])] (Prod.snd r17)) <|
  some ([OV.flat (FV.val (PV.bool (PV.toI (FV.pv (OV.fv (List.headD (Prod.fst r17) (OV.flat FV.gone)))) == ((List.length x3 : Nat) : Int))))], []))
  (some ([OV.flat (FV.val (PV.bool false))], [])))

noncomputable def f6_vestrylaw14_BtreeClones.l1 (rec : Rec) (n : Nat) : Nat → List PV → PV → PV → List PV → Int → Option (List OV × List OV)
  | 0, _, _, _, _, _ => none
  | m + 1, x0, x1, x2, x3, x4 => f6_vestrylaw14_BtreeClones.l1.step rec n (f6_vestrylaw14_BtreeClones.l1 rec n m) x0 x1 x2 x3 x4

theorem f6_vestrylaw14_BtreeClones.l1_eq (rec : Rec) (n : Nat) : ∀ (m : Nat) (x0 : List PV) (x1 : PV) (x2 : PV) (x3 : List PV) (x4 : Int), loopAt C rec n 6 [1, 1, 1, 1, 1, 1, 1, 1, 1, 1, 0, 1, 0] [] m [(2, SV.home (OV.flat (FV.val (PV.sl (some 6) x0)))), (8, SV.home (OV.cont .box [FV.val (PV.ptr (some 3) x1)])), (9, SV.home (OV.cont .box [FV.val (PV.ptr (some 3) x2)])), (12, SV.home (OV.flat (FV.val (PV.sl (some 2) x3)))), (13, SV.home (OV.flat (FV.val (PV.int .i64 x4))))] = f6_vestrylaw14_BtreeClones.l1 rec n m x0 x1 x2 x3 x4
  | 0, x0, x1, x2, x3, x4 => by kernel_rfl
  | m + 1, x0, x1, x2, x3, x4 => by
    have ih : (fun x0 x1 x2 x3 x4 => loopAt C rec n 6 [1, 1, 1, 1, 1, 1, 1, 1, 1, 1, 0, 1, 0] [] m [(2, SV.home (OV.flat (FV.val (PV.sl (some 6) x0)))), (8, SV.home (OV.cont .box [FV.val (PV.ptr (some 3) x1)])), (9, SV.home (OV.cont .box [FV.val (PV.ptr (some 3) x2)])), (12, SV.home (OV.flat (FV.val (PV.sl (some 2) x3)))), (13, SV.home (OV.flat (FV.val (PV.int .i64 x4))))]) = f6_vestrylaw14_BtreeClones.l1 rec n m := funext fun x0 => funext fun x1 => funext fun x2 => funext fun x3 => funext fun x4 => f6_vestrylaw14_BtreeClones.l1_eq rec n m x0 x1 x2 x3 x4
    exact (show loopAt C rec n 6 [1, 1, 1, 1, 1, 1, 1, 1, 1, 1, 0, 1, 0] [] (m + 1) [(2, SV.home (OV.flat (FV.val (PV.sl (some 6) x0)))), (8, SV.home (OV.cont .box [FV.val (PV.ptr (some 3) x1)])), (9, SV.home (OV.cont .box [FV.val (PV.ptr (some 3) x2)])), (12, SV.home (OV.flat (FV.val (PV.sl (some 2) x3)))), (13, SV.home (OV.flat (FV.val (PV.int .i64 x4))))] = f6_vestrylaw14_BtreeClones.l1.step rec n (fun x0 x1 x2 x3 x4 => loopAt C rec n 6 [1, 1, 1, 1, 1, 1, 1, 1, 1, 1, 0, 1, 0] [] m [(2, SV.home (OV.flat (FV.val (PV.sl (some 6) x0)))), (8, SV.home (OV.cont .box [FV.val (PV.ptr (some 3) x1)])), (9, SV.home (OV.cont .box [FV.val (PV.ptr (some 3) x2)])), (12, SV.home (OV.flat (FV.val (PV.sl (some 2) x3)))), (13, SV.home (OV.flat (FV.val (PV.int .i64 x4))))]) x0 x1 x2 x3 x4 from by kernel_rfl).trans (by rw [ih]; rfl)

noncomputable def f6_vestrylaw14_BtreeClones.l0.step (rec : Rec) (n : Nat) (l1 : List PV → PV → PV → List PV → Int → Option (List OV × List OV)) (self_l0 : List PV → List PV → PV → PV → List PV → Int → Option (List OV × List OV)) (x0 : List PV) (x1 : List PV) (x2 : PV) (x3 : PV) (x4 : List PV) (x5 : Int) : Option (List OV × List OV) :=
  ifB (decide (x5 < ((List.length x0 : Nat) : Int)))
  (ifB (decide (x5 < (40 : Int)))
  (needB (decide ((0 : Int) ≤ x5)) <|
  needB (decide (x5 < ((List.length x0 : Nat) : Int))) <|
  needB (hasT Go.Proofs.Try.prog 46 (nthP x0 (Int.toNat x5))) <|
  ifB (PV.toI (List.headD (PV.cells (nthP x0 (Int.toNat x5))) PV.undef) == (0 : Int))
  (needB (decide ((0 : Int) ≤ x5)) <|
  needB (decide (x5 < ((List.length x0 : Nat) : Int))) <|
  needB (hasT Go.Proofs.Try.prog 46 (nthP x0 (Int.toNat x5))) <|
  needB (decide ((0 : Int) ≤ x5)) <|
  needB (decide (x5 < ((List.length x0 : Nat) : Int))) <|
  needB (hasT Go.Proofs.Try.prog 46 (nthP x0 (Int.toNat x5))) <|
  callB (rec 15 [OV.cont .box [FV.val (PV.ptr (some 3) x3)], OV.flat (FV.val (PV.sl none (PV.toL (List.headD (List.tail (PV.cells (nthP x0 (Int.toNat x5)))) PV.undef)))), OV.flat (FV.val (PV.sl none (PV.toL (List.headD (List.tail (List.tail (PV.cells (nthP x0 (Int.toNat x5))))) PV.undef))))]) fun r5 => needB (okOs Go.Proofs.Try.prog [4] [] (Prod.fst r5)) <|
  needB (okOuts Go.Proofs.Try.prog [25, 23, 23] [.io (.b [false]), .ro, .ro] (Prod.snd r5)) <|
  self_l0 x0 x1 x2 (PV.deref (FV.pv (List.headD (OV.cells (List.headD (Prod.snd r5) (OV.flat FV.gone))) FV.gone))) x4 (IntKind.wrap .i64 (x5 + (1 : Int))))
  (needB (decide ((0 : Int) ≤ x5)) <|
  needB (decide (x5 < ((List.length x0 : Nat) : Int))) <|
  needB (hasT Go.Proofs.Try.prog 46 (nthP x0 (Int.toNat x5))) <|
  callB (rec 16 [OV.cont .box [FV.val (PV.ptr (some 3) x3)], OV.flat (FV.val (PV.sl none (PV.toL (List.headD (List.tail (PV.cells (nthP x0 (Int.toNat x5)))) PV.undef))))]) fun r6 => needB (okOs Go.Proofs.Try.prog [4] [] (Prod.fst r6)) <|
  needB (okOuts Go.Proofs.Try.prog [25, 23] [.io (.b [false]), .ro] (Prod.snd r6)) <|
  self_l0 x0 x1 x2 (PV.deref (FV.pv (List.headD (OV.cells (List.headD (Prod.snd r6) (OV.flat FV.gone))) FV.gone))) x4 (IntKind.wrap .i64 (x5 + (1 : Int)))))
  (callB (rec 10 [OV.cont .box [FV.val (PV.ptr (some 3) x2)], OV.flat (FV.val (PV.agg [PV.sl none [], PV.sl none [], PV.bool false]))]) fun r7 => needB (okOs Go.Proofs.Try.prog [27] [] (Prod.fst r7)) <|
  needB (okOuts Go.Proofs.Try.prog [25, 30] [.io (.b [false]), .ro] (Prod.snd r7)) <|
  callB (rec 12 [OV.flat (FV.val (PV.sl (some 2) (PV.toL (FV.pv (OV.fv (List.headD (Prod.fst r7) (OV.flat FV.gone))))))), OV.flat (FV.val (PV.sl (some 2) x4))]) fun r8 => needB (okOs Go.Proofs.Try.prog [4] [] (Prod.fst r8)) <|
  ifB (!(PV.toB (FV.pv (OV.fv (List.headD (Prod.fst r8) (OV.flat FV.gone))))))
  (some ([OV.flat (FV.val (PV.bool false))], []))
  (callB (rec 10 [OV.cont .box [FV.val (PV.ptr (some 3) x3)], OV.flat (FV.val (PV.agg [PV.sl none [], PV.sl none [], PV.bool false]))]) fun r9 => needB (okOs Go.Proofs.Try.prog [27] [] (Prod.fst r9)) <|
  needB (okOuts Go.Proofs.Try.prog [25, 30] [.io (.b [false]), .ro] (Prod.snd r9)) <|
  l1 x1 (PV.deref (FV.pv (List.headD (OV.cells (List.headD (Prod.snd r7) (OV.flat FV.gone))) FV.gone))) (PV.deref (FV.pv (List.headD (OV.cells (List.headD (Prod.snd r9) (OV.flat FV.gone))) FV.gone))) (PV.toL (FV.pv (OV.fv (List.headD (Prod.fst r9) (OV.flat FV.gone))))) (0 : Int))))
  (callB (rec 10 [OV.cont .box [FV.val (PV.ptr (some 3) x2)], OV.flat (FV.val (PV.agg [PV.sl none [], PV.sl none [], PV.bool false]))]) fun r18 => needB (okOs Go.Proofs.Try.prog [27] [] (Prod.fst r18)) <|
  needB (okOuts Go.Proofs.Try.prog [25, 30] [.io (.b [false]), .ro] (Prod.snd r18)) <|
  callB (rec 12 [OV.flat (FV.val (PV.sl (some 2) (PV.toL (FV.pv (OV.fv (List.headD (Prod.fst r18) (OV.flat FV.gone))))))), OV.flat (FV.val (PV.sl (some 2) x4))]) fun r19 => needB (okOs Go.Proofs.Try.prog [4] [] (Prod.fst r19)) <|
  ifB (!(PV.toB (FV.pv (OV.fv (List.headD (Prod.fst r19) (OV.flat FV.gone))))))
  (some ([OV.flat (FV.val (PV.bool false))], []))
  (callB (rec 10 [OV.cont .box [FV.val (PV.ptr (some 3) x3)], OV.flat (FV.val (PV.agg [PV.sl none [], PV.sl none [], PV.bool false]))]) fun r20 => needB (okOs Go.Proofs.Try.prog [27] [] (Prod.fst r20)) <|
  needB (okOuts Go.Proofs.Try.prog [25, 30] [.io (.b [false]), .ro] (Prod.snd r20)) <|
  l1 x1 (PV.deref (FV.pv (List.headD (OV.cells (List.headD (Prod.snd r18) (OV.flat FV.gone))) FV.gone))) (PV.deref (FV.pv (List.headD (OV.cells (List.headD (Prod.snd r20) (OV.flat FV.gone))) FV.gone))) (PV.toL (FV.pv (OV.fv (List.headD (Prod.fst r20) (OV.flat FV.gone))))) (0 : Int)))

noncomputable def f6_vestrylaw14_BtreeClones.l0 (rec : Rec) (n : Nat) : Nat → List PV → List PV → PV → PV → List PV → Int → Option (List OV × List OV)
  | 0, _, _, _, _, _, _ => none
  | m + 1, x0, x1, x2, x3, x4, x5 => f6_vestrylaw14_BtreeClones.l0.step rec n (f6_vestrylaw14_BtreeClones.l1 rec n n) (f6_vestrylaw14_BtreeClones.l0 rec n m) x0 x1 x2 x3 x4 x5

theorem f6_vestrylaw14_BtreeClones.l0_eq (rec : Rec) (n : Nat) : ∀ (m : Nat) (x0 : List PV) (x1 : List PV) (x2 : PV) (x3 : PV) (x4 : List PV) (x5 : Int), loopAt C rec n 6 [1, 1, 1, 1, 1, 1, 1, 0, 1, 0] [] m [(1, SV.home (OV.flat (FV.val (PV.sl (some 6) x0)))), (2, SV.home (OV.flat (FV.val (PV.sl (some 6) x1)))), (8, SV.home (OV.cont .box [FV.val (PV.ptr (some 3) x2)])), (9, SV.home (OV.cont .box [FV.val (PV.ptr (some 3) x3)])), (10, SV.home (OV.flat (FV.val (PV.sl (some 2) x4)))), (11, SV.home (OV.flat (FV.val (PV.int .i64 x5))))] = f6_vestrylaw14_BtreeClones.l0 rec n m x0 x1 x2 x3 x4 x5
  | 0, x0, x1, x2, x3, x4, x5 => by kernel_rfl
  | m + 1, x0, x1, x2, x3, x4, x5 => by
    have ih : (fun x0 x1 x2 x3 x4 x5 => loopAt C rec n 6 [1, 1, 1, 1, 1, 1, 1, 0, 1, 0] [] m [(1, SV.home (OV.flat (FV.val (PV.sl (some 6) x0)))), (2, SV.home (OV.flat (FV.val (PV.sl (some 6) x1)))), (8, SV.home (OV.cont .box [FV.val (PV.ptr (some 3) x2)])), (9, SV.home (OV.cont .box [FV.val (PV.ptr (some 3) x3)])), (10, SV.home (OV.flat (FV.val (PV.sl (some 2) x4)))), (11, SV.home (OV.flat (FV.val (PV.int .i64 x5))))]) = f6_vestrylaw14_BtreeClones.l0 rec n m := funext fun x0 => funext fun x1 => funext fun x2 => funext fun x3 => funext fun x4 => funext fun x5 => f6_vestrylaw14_BtreeClones.l0_eq rec n m x0 x1 x2 x3 x4 x5
    have i0 : (fun x0 x1 x2 x3 x4 => loopAt C rec n 6 [1, 1, 1, 1, 1, 1, 1, 1, 1, 1, 0, 1, 0] [] n [(2, SV.home (OV.flat (FV.val (PV.sl (some 6) x0)))), (8, SV.home (OV.cont .box [FV.val (PV.ptr (some 3) x1)])), (9, SV.home (OV.cont .box [FV.val (PV.ptr (some 3) x2)])), (12, SV.home (OV.flat (FV.val (PV.sl (some 2) x3)))), (13, SV.home (OV.flat (FV.val (PV.int .i64 x4))))]) = f6_vestrylaw14_BtreeClones.l1 rec n n := funext fun x0 => funext fun x1 => funext fun x2 => funext fun x3 => funext fun x4 => f6_vestrylaw14_BtreeClones.l1_eq rec n n x0 x1 x2 x3 x4
    exact (show loopAt C rec n 6 [1, 1, 1, 1, 1, 1, 1, 0, 1, 0] [] (m + 1) [(1, SV.home (OV.flat (FV.val (PV.sl (some 6) x0)))), (2, SV.home (OV.flat (FV.val (PV.sl (some 6) x1)))), (8, SV.home (OV.cont .box [FV.val (PV.ptr (some 3) x2)])), (9, SV.home (OV.cont .box [FV.val (PV.ptr (some 3) x3)])), (10, SV.home (OV.flat (FV.val (PV.sl (some 2) x4)))), (11, SV.home (OV.flat (FV.val (PV.int .i64 x5))))] = f6_vestrylaw14_BtreeClones.l0.step rec n (fun x0 x1 x2 x3 x4 => loopAt C rec n 6 [1, 1, 1, 1, 1, 1, 1, 1, 1, 1, 0, 1, 0] [] n [(2, SV.home (OV.flat (FV.val (PV.sl (some 6) x0)))), (8, SV.home (OV.cont .box [FV.val (PV.ptr (some 3) x1)])), (9, SV.home (OV.cont .box [FV.val (PV.ptr (some 3) x2)])), (12, SV.home (OV.flat (FV.val (PV.sl (some 2) x3)))), (13, SV.home (OV.flat (FV.val (PV.int .i64 x4))))]) (fun x0 x1 x2 x3 x4 x5 => loopAt C rec n 6 [1, 1, 1, 1, 1, 1, 1, 0, 1, 0] [] m [(1, SV.home (OV.flat (FV.val (PV.sl (some 6) x0)))), (2, SV.home (OV.flat (FV.val (PV.sl (some 6) x1)))), (8, SV.home (OV.cont .box [FV.val (PV.ptr (some 3) x2)])), (9, SV.home (OV.cont .box [FV.val (PV.ptr (some 3) x3)])), (10, SV.home (OV.flat (FV.val (PV.sl (some 2) x4)))), (11, SV.home (OV.flat (FV.val (PV.int .i64 x5))))]) x0 x1 x2 x3 x4 x5 from by kernel_rfl).trans (by rw [i0, ih]; rfl)

noncomputable def f6_vestrylaw14_BtreeClones.pre (rec : Rec) (n : Nat) (l0 : List PV → List PV → PV → PV → List PV → Int → Option (List OV × List OV)) (a0 : List PV) (a1 : List PV) (a2 : List PV) : Option (List OV × List OV) :=
  callB (rec 8 []) fun r1 => needB (okOs Go.Proofs.Try.prog [4] [] (Prod.fst r1)) <|
  callB (rec 9 [OV.flat (FV.val (PV.sl (some 6) a0))]) fun r2 => needB (okOs Go.Proofs.Try.prog [25] [.b [false]] (Prod.fst r2)) <|
  ifB (!(PV.toB (FV.pv (OV.fv (List.headD (Prod.fst r1) (OV.flat FV.gone))))))
  (some ([OV.flat (FV.val (PV.bool false))], []))
  (callB (rec 18 [OV.cont .box [FV.val (PV.ptr (some 3) (PV.deref (FV.pv (List.headD (OV.cells (List.headD (Prod.fst r2) (OV.flat FV.gone))) FV.gone))))]]) fun r3 => needB (okOs Go.Proofs.Try.prog [25] [.b [false]] (Prod.fst r3)) <|
  needB (okOuts Go.Proofs.Try.prog [25] [.io (.b [false])] (Prod.snd r3)) <|
  callB (rec 10 [OV.cont .box [FV.val (PV.ptr (some 3) (PV.deref (FV.pv (List.headD (OV.cells (List.headD (Prod.snd r3) (OV.flat FV.gone))) FV.gone))))], OV.flat (FV.val (PV.agg [PV.sl none [], PV.sl none [], PV.bool false]))]) fun r4 => needB (okOs Go.Proofs.Try.prog [27] [] (Prod.fst r4)) <|
  needB (okOuts Go.Proofs.Try.prog [25, 30] [.io (.b [false]), .ro] (Prod.snd r4)) <|
  l0 a1 a2 (PV.deref (FV.pv (List.headD (OV.cells (List.headD (Prod.snd r4) (OV.flat FV.gone))) FV.gone))) (PV.deref (FV.pv (List.headD (OV.cells (List.headD (Prod.fst r3) (OV.flat FV.gone))) FV.gone))) (PV.toL (FV.pv (OV.fv (List.headD (Prod.fst r4) (OV.flat FV.gone))))) (0 : Int))

noncomputable def f6_vestrylaw14_BtreeClones (rec : Rec) (n : Nat) (a0 : List PV) (a1 : List PV) (a2 : List PV) : Option (List OV × List OV) := f6_vestrylaw14_BtreeClones.pre rec n (f6_vestrylaw14_BtreeClones.l0 rec n n) a0 a1 a2

theorem f6_vestrylaw14_BtreeClones_eq (rec : Rec) (n : Nat) (a0 : List PV) (a1 : List PV) (a2 : List PV) : callBody C rec n 6 [OV.flat (FV.val (PV.sl (some 6) a0)), OV.flat (FV.val (PV.sl (some 6) a1)), OV.flat (FV.val (PV.sl (some 6) a2))] = f6_vestrylaw14_BtreeClones rec n a0 a1 a2 := by
  have i0 : (fun x0 x1 x2 x3 x4 x5 => loopAt C rec n 6 [1, 1, 1, 1, 1, 1, 1, 0, 1, 0] [] n [(1, SV.home (OV.flat (FV.val (PV.sl (some 6) x0)))), (2, SV.home (OV.flat (FV.val (PV.sl (some 6) x1)))), (8, SV.home (OV.cont .box [FV.val (PV.ptr (some 3) x2)])), (9, SV.home (OV.cont .box [FV.val (PV.ptr (some 3) x3)])), (10, SV.home (OV.flat (FV.val (PV.sl (some 2) x4)))), (11, SV.home (OV.flat (FV.val (PV.int .i64 x5))))]) = f6_vestrylaw14_BtreeClones.l0 rec n n := funext fun x0 => funext fun x1 => funext fun x2 => funext fun x3 => funext fun x4 => funext fun x5 => f6_vestrylaw14_BtreeClones.l0_eq rec n n x0 x1 x2 x3 x4 x5
  exact (show callBody C rec n 6 [OV.flat (FV.val (PV.sl (some 6) a0)), OV.flat (FV.val (PV.sl (some 6) a1)), OV.flat (FV.val (PV.sl (some 6) a2))] = f6_vestrylaw14_BtreeClones.pre rec n (fun x0 x1 x2 x3 x4 x5 => loopAt C rec n 6 [1, 1, 1, 1, 1, 1, 1, 0, 1, 0] [] n [(1, SV.home (OV.flat (FV.val (PV.sl (some 6) x0)))), (2, SV.home (OV.flat (FV.val (PV.sl (some 6) x1)))), (8, SV.home (OV.cont .box [FV.val (PV.ptr (some 3) x2)])), (9, SV.home (OV.cont .box [FV.val (PV.ptr (some 3) x3)])), (10, SV.home (OV.flat (FV.val (PV.sl (some 2) x4)))), (11, SV.home (OV.flat (FV.val (PV.int .i64 x5))))]) a0 a1 a2 from by kernel_rfl).trans (by rw [i0]; rfl)

noncomputable def f7_vestrylaw14_BtreeShapes.l2.step (rec : Rec) (n : Nat) (self_l0 : List PV → PV → Int → Option (List OV × List OV)) (self_l2 : List PV → PV → Int → List PV → Int → List PV → Int → Option (List OV × List OV)) (x0 : List PV) (x1 : PV) (x2 : Int) (x3 : List PV) (x4 : Int) (x5 : List PV) (x6 : Int) : Option (List OV × List OV) :=
  ifB (decide (x6 < ((List.length x5 : Nat) : Int)))
  (needB (decide ((0 : Int) ≤ x6)) <|
  needB (decide (x6 < ((List.length x5 : Nat) : Int))) <|
  needB (Nat.blt (Int.toNat x6) (List.length x5)) <|
  needB (Ev.isAgg (nthP x5 (Int.toNat x6)) && Nat.ble (0 + 1) (List.length (PV.cells (nthP x5 (Int.toNat x6))))) <|
  needB (hasT Go.Proofs.Try.prog 23 (partX none 0 (nthP x5 (Int.toNat x6)))) <|
  needB (List.all (PV.toL (partX none 0 (nthP x5 (Int.toNat x6)))) isByte) <|
  needB (decide ((0 : Int) ≤ IntKind.wrap .i64 (x6 - (1 : Int)))) <|
  needB (decide (IntKind.wrap .i64 (x6 - (1 : Int)) < ((List.length x5 : Nat) : Int))) <|
  needB (Nat.blt (Int.toNat (IntKind.wrap .i64 (x6 - (1 : Int)))) (List.length x5)) <|
  needB (Ev.isAgg (nthP x5 (Int.toNat (IntKind.wrap .i64 (x6 - (1 : Int))))) && Nat.ble (0 + 1) (List.length (PV.cells (nthP x5 (Int.toNat (IntKind.wrap .i64 (x6 - (1 : Int)))))))) <|
  needB (hasT Go.Proofs.Try.prog 23 (partX none 0 (nthP x5 (Int.toNat (IntKind.wrap .i64 (x6 - (1 : Int))))))) <|
  needB (List.all (PV.toL (partX none 0 (nthP x5 (Int.toNat (IntKind.wrap .i64 (x6 - (1 : Int))))))) isByte) <|
  ifB ((Op.bytesLess (List.map u8Of (PV.toL (partX none 0 (nthP x5 (Int.toNat x6))))) (List.map u8Of (PV.toL (partX none 0 (nthP x5 (Int.toNat (IntKind.wrap .i64 (x6 - (1 : Int))))))))) || (List.map u8Of (PV.toL (partX none 0 (nthP x5 (Int.toNat x6))))) == (List.map u8Of (PV.toL (partX none 0 (nthP x5 (Int.toNat (IntKind.wrap .i64 (x6 - (1 : Int)))))))))
  (some ([OV.flat (FV.val (PV.bool false))], []))
  (self_l2 x0 x1 x2 x3 x4 x5 (IntKind.wrap .i64 (x6 + (1 : Int)))))
  (ifB (decide (((List.length x3 : Nat) : Int) < (1 : Int)))
  (some ([OV.flat (FV.val (PV.bool false))], []))
  (callB (rec 14 [OV.cont .box [FV.val (PV.ptr (some 3) x1)]]) fun r7 => needB (okOs Go.Proofs.Try.prog [3] [] (Prod.fst r7)) <|
  needB (okOuts Go.Proofs.Try.prog [25] [.io (.b [false])] (Prod.snd r7)) <|
  ifB (((List.length x5 : Nat) : Int) != PV.toI (FV.pv (OV.fv (List.headD (Prod.fst r7) (OV.flat FV.gone)))))
  (some ([OV.flat (FV.val (PV.bool false))], []))
  (callB (rec 10 [OV.cont .box [FV.val (PV.ptr (some 3) (PV.deref (FV.pv (List.headD (OV.cells (List.headD (Prod.snd r7) (OV.flat FV.gone))) FV.gone))))], OV.flat (FV.val (PV.agg [PV.sl none [], PV.sl none [], PV.bool false]))]) fun r8 => needB (okOs Go.Proofs.Try.prog [27] [] (Prod.fst r8)) <|
  needB (okOuts Go.Proofs.Try.prog [25, 30] [.io (.b [false]), .ro] (Prod.snd r8)) <|
  callB (rec 12 [OV.flat (FV.val (PV.sl (some 2) x5)), OV.flat (FV.val (PV.sl (some 2) (PV.toL (FV.pv (OV.fv (List.headD (Prod.fst r8) (OV.flat FV.gone)))))))]) fun r9 => needB (okOs Go.Proofs.Try.prog [4] [] (Prod.fst r9)) <|
  ifB (!(PV.toB (FV.pv (OV.fv (List.headD (Prod.fst r9) (OV.flat FV.gone))))))
  (some ([OV.flat (FV.val (PV.bool false))], []))
  (ifB (!((x4 == (1 : Int)) == (((List.length x3 : Nat) : Int) == (1 : Int))))
  (some ([OV.flat (FV.val (PV.bool false))], []))
  (ifB (decide (x4 < (1 : Int)))
  (some ([OV.flat (FV.val (PV.bool false))], []))
  (ifB (decide (x4 > (8 : Int)))
  (some ([OV.flat (FV.val (PV.bool false))], []))
  (ifB (decide (x4 > (1 : Int)))
  (needB (decide ((0 : Int) ≤ x4)) <|
  ifB (decide (((List.length x5 : Nat) : Int) < IntKind.wrap .i64 ((1 : Int) * (2 : Int) ^ (min (Int.toNat x4) (IntKind.bits .i64)))))
  (some ([OV.flat (FV.val (PV.bool false))], []))
  (needB (decide ((0 : Int) ≤ IntKind.wrap .i64 ((2 : Int) * x4))) <|
  ifB (decide (((List.length x5 : Nat) : Int) > IntKind.wrap .i64 ((1 : Int) * (2 : Int) ^ (min (Int.toNat (IntKind.wrap .i64 ((2 : Int) * x4))) (IntKind.bits .i64)))))
  (some ([OV.flat (FV.val (PV.bool false))], []))
  (self_l0 x0 (PV.deref (FV.pv (List.headD (OV.cells (List.headD (Prod.snd r8) (OV.flat FV.gone))) FV.gone))) (IntKind.wrap .i64 (x2 + (1 : Int))))))
  (self_l0 x0 (PV.deref (FV.pv (List.headD (OV.cells (List.headD (Prod.snd r8) (OV.flat FV.gone))) FV.gone))) (IntKind.wrap .i64 (x2 + (1 : Int)))))))))))

noncomputable def f7_vestrylaw14_BtreeShapes.l2 (rec : Rec) (n : Nat) (self_l0 : List PV → PV → Int → Option (List OV × List OV)) : Nat → List PV → PV → Int → List PV → Int → List PV → Int → Option (List OV × List OV)
  | 0, _, _, _, _, _, _, _ => none
  | m + 1, x0, x1, x2, x3, x4, x5, x6 => f7_vestrylaw14_BtreeShapes.l2.step rec n self_l0 (f7_vestrylaw14_BtreeShapes.l2 rec n self_l0 m) x0 x1 x2 x3 x4 x5 x6

theorem f7_vestrylaw14_BtreeShapes.l2_eq (rec : Rec) (n : Nat) (m_l0 : Nat) : ∀ (m : Nat) (x0 : List PV) (x1 : PV) (x2 : Int) (x3 : List PV) (x4 : Int) (x5 : List PV) (x6 : Int), loopAt C rec n 7 [1, 1, 1, 1, 0, 1, 0, 0, 1, 0, 0, 1, 1, 1, 1, 1, 1, 0, 1, 0] [m_l0] m [(0, SV.home (OV.flat (FV.val (PV.sl (some 6) x0)))), (4, SV.home (OV.cont .box [FV.val (PV.ptr (some 3) x1)])), (5, SV.home (OV.flat (FV.val (PV.int .i64 x2)))), (6, SV.home (OV.flat (FV.val (PV.sl none x3)))), (7, SV.home (OV.flat (FV.val (PV.int .i64 x4)))), (8, SV.home (OV.flat (FV.own (some 2) x5 []))), (10, SV.home (OV.flat (FV.val (PV.int .i64 x6))))] = f7_vestrylaw14_BtreeShapes.l2 rec n (fun x0 x1 x2 => loopAt C rec n 7 [1, 1, 1, 1, 0, 1, 0] [] m_l0 [(0, SV.home (OV.flat (FV.val (PV.sl (some 6) x0)))), (4, SV.home (OV.cont .box [FV.val (PV.ptr (some 3) x1)])), (5, SV.home (OV.flat (FV.val (PV.int .i64 x2))))]) m x0 x1 x2 x3 x4 x5 x6
  | 0, x0, x1, x2, x3, x4, x5, x6 => by kernel_rfl
  | m + 1, x0, x1, x2, x3, x4, x5, x6 => by
    have ih : (fun x0 x1 x2 x3 x4 x5 x6 => loopAt C rec n 7 [1, 1, 1, 1, 0, 1, 0, 0, 1, 0, 0, 1, 1, 1, 1, 1, 1, 0, 1, 0] [m_l0] m [(0, SV.home (OV.flat (FV.val (PV.sl (some 6) x0)))), (4, SV.home (OV.cont .box [FV.val (PV.ptr (some 3) x1)])), (5, SV.home (OV.flat (FV.val (PV.int .i64 x2)))), (6, SV.home (OV.flat (FV.val (PV.sl none x3)))), (7, SV.home (OV.flat (FV.val (PV.int .i64 x4)))), (8, SV.home (OV.flat (FV.own (some 2) x5 []))), (10, SV.home (OV.flat (FV.val (PV.int .i64 x6))))]) = f7_vestrylaw14_BtreeShapes.l2 rec n (fun x0 x1 x2 => loopAt C rec n 7 [1, 1, 1, 1, 0, 1, 0] [] m_l0 [(0, SV.home (OV.flat (FV.val (PV.sl (some 6) x0)))), (4, SV.home (OV.cont .box [FV.val (PV.ptr (some 3) x1)])), (5, SV.home (OV.flat (FV.val (PV.int .i64 x2))))]) m := funext fun x0 => funext fun x1 => funext fun x2 => funext fun x3 => funext fun x4 => funext fun x5 => funext fun x6 => f7_vestrylaw14_BtreeShapes.l2_eq rec n m_l0 m x0 x1 x2 x3 x4 x5 x6
    exact (show loopAt C rec n 7 [1, 1, 1, 1, 0, 1, 0, 0, 1, 0, 0, 1, 1, 1, 1, 1, 1, 0, 1, 0] [m_l0] (m + 1) [(0, SV.home (OV.flat (FV.val (PV.sl (some 6) x0)))), (4, SV.home (OV.cont .box [FV.val (PV.ptr (some 3) x1)])), (5, SV.home (OV.flat (FV.val (PV.int .i64 x2)))), (6, SV.home (OV.flat (FV.val (PV.sl none x3)))), (7, SV.home (OV.flat (FV.val (PV.int .i64 x4)))), (8, SV.home (OV.flat (FV.own (some 2) x5 []))), (10, SV.home (OV.flat (FV.val (PV.int .i64 x6))))] = f7_vestrylaw14_BtreeShapes.l2.step rec n (fun x0 x1 x2 => loopAt C rec n 7 [1, 1, 1, 1, 0, 1, 0] [] m_l0 [(0, SV.home (OV.flat (FV.val (PV.sl (some 6) x0)))), (4, SV.home (OV.cont .box [FV.val (PV.ptr (some 3) x1)])), (5, SV.home (OV.flat (FV.val (PV.int .i64 x2))))]) (fun x0 x1 x2 x3 x4 x5 x6 => loopAt C rec n 7 [1, 1, 1, 1, 0, 1, 0, 0, 1, 0, 0, 1, 1, 1, 1, 1, 1, 0, 1, 0] [m_l0] m [(0, SV.home (OV.flat (FV.val (PV.sl (some 6) x0)))), (4, SV.home (OV.cont .box [FV.val (PV.ptr (some 3) x1)])), (5, SV.home (OV.flat (FV.val (PV.int .i64 x2)))), (6, SV.home (OV.flat (FV.val (PV.sl none x3)))), (7, SV.home (OV.flat (FV.val (PV.int .i64 x4)))), (8, SV.home (OV.flat (FV.own (some 2) x5 []))), (10, SV.home (OV.flat (FV.val (PV.int .i64 x6))))]) x0 x1 x2 x3 x4 x5 x6 from by kernel_rfl).trans (by rw [ih]; rfl)

noncomputable def f7_vestrylaw14_BtreeShapes.l1.step (rec : Rec) (n : Nat) (self_l0 : List PV → PV → Int → Option (List OV × List OV)) (l2 : List PV → PV → Int → List PV → Int → List PV → Int → Option (List OV × List OV)) (self_l1 : List PV → PV → Int → List PV → Int → List PV → Int → Option (List OV × List OV)) (x0 : List PV) (x1 : PV) (x2 : Int) (x3 : List PV) (x4 : Int) (x5 : List PV) (x6 : Int) : Option (List OV × List OV) :=
  ifB (decide (x6 < ((List.length x3 : Nat) : Int)))
  (needB (decide ((0 : Int) ≤ x6)) <|
  needB (decide (x6 < ((List.length x3 : Nat) : Int))) <|
  needB (hasT Go.Proofs.Try.prog 27 (nthP x3 (Int.toNat x6))) <|
  ifB (decide (((List.length (PV.toL (nthP x3 (Int.toNat x6))) : Nat) : Int) > (4 : Int)))
  (some ([OV.flat (FV.val (PV.bool false))], []))
  (ifB (decide (((List.length x3 : Nat) : Int) > (1 : Int)))
  (needB (decide ((0 : Int) ≤ x6)) <|
  needB (decide (x6 < ((List.length x3 : Nat) : Int))) <|
  needB (hasT Go.Proofs.Try.prog 27 (nthP x3 (Int.toNat x6))) <|
  ifB (decide (((List.length (PV.toL (nthP x3 (Int.toNat x6))) : Nat) : Int) < (2 : Int)))
  (some ([OV.flat (FV.val (PV.bool false))], []))
  (needB (decide ((0 : Int) ≤ x6)) <|
  needB (decide (x6 < ((List.length x3 : Nat) : Int))) <|
  needB (hasT Go.Proofs.Try.prog 27 (nthP x3 (Int.toNat x6))) <|
  needB (Nat.ble ((List.length x5 + List.length (PV.toL (nthP x3 (Int.toNat x6)))) * 48) 140737488355328) <|
  needB (Nat.ble (List.length x5 + List.length (PV.toL (nthP x3 (Int.toNat x6)))) 9223372036854775807) <|
  self_l1 x0 x1 x2 x3 x4 (x5 ++ (PV.toL (nthP x3 (Int.toNat x6)))) (IntKind.wrap .i64 (x6 + (1 : Int)))))
  (needB (decide ((0 : Int) ≤ x6)) <|
  needB (decide (x6 < ((List.length x3 : Nat) : Int))) <|
  needB (hasT Go.Proofs.Try.prog 27 (nthP x3 (Int.toNat x6))) <|
  needB (Nat.ble ((List.length x5 + List.length (PV.toL (nthP x3 (Int.toNat x6)))) * 48) 140737488355328) <|
  needB (Nat.ble (List.length x5 + List.length (PV.toL (nthP x3 (Int.toNat x6)))) 9223372036854775807) <|
  self_l1 x0 x1 x2 x3 x4 (x5 ++ (PV.toL (nthP x3 (Int.toNat x6)))) (IntKind.wrap .i64 (x6 + (1 : Int))))))
  (l2 x0 x1 x2 x3 x4 x5 (1 : Int))

noncomputable def f7_vestrylaw14_BtreeShapes.l1 (rec : Rec) (n : Nat) (self_l0 : List PV → PV → Int → Option (List OV × List OV)) : Nat → List PV → PV → Int → List PV → Int → List PV → Int → Option (List OV × List OV)
  | 0, _, _, _, _, _, _, _ => none
  | m + 1, x0, x1, x2, x3, x4, x5, x6 => f7_vestrylaw14_BtreeShapes.l1.step rec n self_l0 (f7_vestrylaw14_BtreeShapes.l2 rec n (self_l0) n) (f7_vestrylaw14_BtreeShapes.l1 rec n self_l0 m) x0 x1 x2 x3 x4 x5 x6

theorem f7_vestrylaw14_BtreeShapes.l1_eq (rec : Rec) (n : Nat) (m_l0 : Nat) : ∀ (m : Nat) (x0 : List PV) (x1 : PV) (x2 : Int) (x3 : List PV) (x4 : Int) (x5 : List PV) (x6 : Int), loopAt C rec n 7 [1, 1, 1, 1, 0, 1, 0, 0, 1, 0, 0, 1, 1, 1, 1, 1, 0, 1, 0] [m_l0] m [(0, SV.home (OV.flat (FV.val (PV.sl (some 6) x0)))), (4, SV.home (OV.cont .box [FV.val (PV.ptr (some 3) x1)])), (5, SV.home (OV.flat (FV.val (PV.int .i64 x2)))), (6, SV.home (OV.flat (FV.val (PV.sl none x3)))), (7, SV.home (OV.flat (FV.val (PV.int .i64 x4)))), (8, SV.home (OV.flat (FV.own (some 2) x5 []))), (9, SV.home (OV.flat (FV.val (PV.int .i64 x6))))] = f7_vestrylaw14_BtreeShapes.l1 rec n (fun x0 x1 x2 => loopAt C rec n 7 [1, 1, 1, 1, 0, 1, 0] [] m_l0 [(0, SV.home (OV.flat (FV.val (PV.sl (some 6) x0)))), (4, SV.home (OV.cont .box [FV.val (PV.ptr (some 3) x1)])), (5, SV.home (OV.flat (FV.val (PV.int .i64 x2))))]) m x0 x1 x2 x3 x4 x5 x6
  | 0, x0, x1, x2, x3, x4, x5, x6 => by kernel_rfl
  | m + 1, x0, x1, x2, x3, x4, x5, x6 => by
    have ih : (fun x0 x1 x2 x3 x4 x5 x6 => loopAt C rec n 7 [1, 1, 1, 1, 0, 1, 0, 0, 1, 0, 0, 1, 1, 1, 1, 1, 0, 1, 0] [m_l0] m [(0, SV.home (OV.flat (FV.val (PV.sl (some 6) x0)))), (4, SV.home (OV.cont .box [FV.val (PV.ptr (some 3) x1)])), (5, SV.home (OV.flat (FV.val (PV.int .i64 x2)))), (6, SV.home (OV.flat (FV.val (PV.sl none x3)))), (7, SV.home (OV.flat (FV.val (PV.int .i64 x4)))), (8, SV.home (OV.flat (FV.own (some 2) x5 []))), (9, SV.home (OV.flat (FV.val (PV.int .i64 x6))))]) = f7_vestrylaw14_BtreeShapes.l1 rec n (fun x0 x1 x2 => loopAt C rec n 7 [1, 1, 1, 1, 0, 1, 0] [] m_l0 [(0, SV.home (OV.flat (FV.val (PV.sl (some 6) x0)))), (4, SV.home (OV.cont .box [FV.val (PV.ptr (some 3) x1)])), (5, SV.home (OV.flat (FV.val (PV.int .i64 x2))))]) m := funext fun x0 => funext fun x1 => funext fun x2 => funext fun x3 => funext fun x4 => funext fun x5 => funext fun x6 => f7_vestrylaw14_BtreeShapes.l1_eq rec n m_l0 m x0 x1 x2 x3 x4 x5 x6
    have i0 : (fun x0 x1 x2 x3 x4 x5 x6 => loopAt C rec n 7 [1, 1, 1, 1, 0, 1, 0, 0, 1, 0, 0, 1, 1, 1, 1, 1, 1, 0, 1, 0] [m_l0] n [(0, SV.home (OV.flat (FV.val (PV.sl (some 6) x0)))), (4, SV.home (OV.cont .box [FV.val (PV.ptr (some 3) x1)])), (5, SV.home (OV.flat (FV.val (PV.int .i64 x2)))), (6, SV.home (OV.flat (FV.val (PV.sl none x3)))), (7, SV.home (OV.flat (FV.val (PV.int .i64 x4)))), (8, SV.home (OV.flat (FV.own (some 2) x5 []))), (10, SV.home (OV.flat (FV.val (PV.int .i64 x6))))]) = f7_vestrylaw14_BtreeShapes.l2 rec n (fun x0 x1 x2 => loopAt C rec n 7 [1, 1, 1, 1, 0, 1, 0] [] m_l0 [(0, SV.home (OV.flat (FV.val (PV.sl (some 6) x0)))), (4, SV.home (OV.cont .box [FV.val (PV.ptr (some 3) x1)])), (5, SV.home (OV.flat (FV.val (PV.int .i64 x2))))]) n := funext fun x0 => funext fun x1 => funext fun x2 => funext fun x3 => funext fun x4 => funext fun x5 => funext fun x6 => f7_vestrylaw14_BtreeShapes.l2_eq rec n m_l0 n x0 x1 x2 x3 x4 x5 x6
    exact (show loopAt C rec n 7 [1, 1, 1, 1, 0, 1, 0, 0, 1, 0, 0, 1, 1, 1, 1, 1, 0, 1, 0] [m_l0] (m + 1) [(0, SV.home (OV.flat (FV.val (PV.sl (some 6) x0)))), (4, SV.home (OV.cont .box [FV.val (PV.ptr (some 3) x1)])), (5, SV.home (OV.flat (FV.val (PV.int .i64 x2)))), (6, SV.home (OV.flat (FV.val (PV.sl none x3)))), (7, SV.home (OV.flat (FV.val (PV.int .i64 x4)))), (8, SV.home (OV.flat (FV.own (some 2) x5 []))), (9, SV.home (OV.flat (FV.val (PV.int .i64 x6))))] = f7_vestrylaw14_BtreeShapes.l1.step rec n (fun x0 x1 x2 => loopAt C rec n 7 [1, 1, 1, 1, 0, 1, 0] [] m_l0 [(0, SV.home (OV.flat (FV.val (PV.sl (some 6) x0)))), (4, SV.home (OV.cont .box [FV.val (PV.ptr (some 3) x1)])), (5, SV.home (OV.flat (FV.val (PV.int .i64 x2))))]) (fun x0 x1 x2 x3 x4 x5 x6 => loopAt C rec n 7 [1, 1, 1, 1, 0, 1, 0, 0, 1, 0, 0, 1, 1, 1, 1, 1, 1, 0, 1, 0] [m_l0] n [(0, SV.home (OV.flat (FV.val (PV.sl (some 6) x0)))), (4, SV.home (OV.cont .box [FV.val (PV.ptr (some 3) x1)])), (5, SV.home (OV.flat (FV.val (PV.int .i64 x2)))), (6, SV.home (OV.flat (FV.val (PV.sl none x3)))), (7, SV.home (OV.flat (FV.val (PV.int .i64 x4)))), (8, SV.home (OV.flat (FV.own (some 2) x5 []))), (10, SV.home (OV.flat (FV.val (PV.int .i64 x6))))]) (fun x0 x1 x2 x3 x4 x5 x6 => loopAt C rec n 7 [1, 1, 1, 1, 0, 1, 0, 0, 1, 0, 0, 1, 1, 1, 1, 1, 0, 1, 0] [m_l0] m [(0, SV.home (OV.flat (FV.val (PV.sl (some 6) x0)))), (4, SV.home (OV.cont .box [FV.val (PV.ptr (some 3) x1)])), (5, SV.home (OV.flat (FV.val (PV.int .i64 x2)))), (6, SV.home (OV.flat (FV.val (PV.sl none x3)))), (7, SV.home (OV.flat (FV.val (PV.int .i64 x4)))), (8, SV.home (OV.flat (FV.own (some 2) x5 []))), (9, SV.home (OV.flat (FV.val (PV.int .i64 x6))))]) x0 x1 x2 x3 x4 x5 x6 from by kernel_rfl).trans (by rw [i0, ih]; rfl)

noncomputable def f7_vestrylaw14_BtreeShapes.l0.step (rec : Rec) (n : Nat) (l1 : List PV → PV → Int → List PV → Int → List PV → Int → Option (List OV × List OV)) (self_l0 : List PV → PV → Int → Option (List OV × List OV)) (x0 : List PV) (x1 : PV) (x2 : Int) : Option (List OV × List OV) :=
  ifB (decide (x2 < ((List.length x0 : Nat) : Int)))
  (ifB (decide (x2 < (80 : Int)))
  (needB (decide ((0 : Int) ≤ x2)) <|
  needB (decide (x2 < ((List.length x0 : Nat) : Int))) <|
  needB (hasT Go.Proofs.Try.prog 46 (nthP x0 (Int.toNat x2))) <|
  ifB (PV.toI (List.headD (PV.cells (nthP x0 (Int.toNat x2))) PV.undef) == (0 : Int))
  (needB (decide ((0 : Int) ≤ x2)) <|
  needB (decide (x2 < ((List.length x0 : Nat) : Int))) <|
  needB (hasT Go.Proofs.Try.prog 46 (nthP x0 (Int.toNat x2))) <|
  needB (decide ((0 : Int) ≤ x2)) <|
  needB (decide (x2 < ((List.length x0 : Nat) : Int))) <|
  needB (hasT Go.Proofs.Try.prog 46 (nthP x0 (Int.toNat x2))) <|
  callB (rec 15 [OV.cont .box [FV.val (PV.ptr (some 3) x1)], OV.flat (FV.val (PV.sl none (PV.toL (List.headD (List.tail (PV.cells (nthP x0 (Int.toNat x2)))) PV.undef)))), OV.flat (FV.val (PV.sl none (PV.toL (List.headD (List.tail (List.tail (PV.cells (nthP x0 (Int.toNat x2))))) PV.undef))))]) fun r3 => needB (okOs Go.Proofs.Try.prog [4] [] (Prod.fst r3)) <|
  needB (okOuts Go.Proofs.Try.prog [25, 23, 23] [.io (.b [false]), .ro, .ro] (Prod.snd r3)) <|
  needB (decide ((0 : Int) ≤ x2)) <|
  needB (decide (x2 < ((List.length x0 : Nat) : Int))) <|
  needB (hasT Go.Proofs.Try.prog 46 (nthP x0 (Int.toNat x2))) <|
  ifB (PV.toI (List.headD (PV.cells (nthP x0 (Int.toNat x2))) PV.undef) == (1 : Int))
  (needB (decide ((0 : Int) ≤ x2)) <|
  needB (decide (x2 < ((List.length x0 : Nat) : Int))) <|
  needB (hasT Go.Proofs.Try.prog 46 (nthP x0 (Int.toNat x2))) <|
  callB (rec 16 [OV.cont .box [FV.val (PV.ptr (some 3) (PV.deref (FV.pv (List.headD (OV.cells (List.headD (Prod.snd r3) (OV.flat FV.gone))) FV.gone))))], OV.flat (FV.val (PV.sl none (PV.toL (List.headD (List.tail (PV.cells (nthP x0 (Int.toNat x2)))) PV.undef))))]) fun r4 => needB (okOs Go.Proofs.Try.prog [4] [] (Prod.fst r4)) <|
  needB (okOuts Go.Proofs.Try.prog [25, 23] [.io (.b [false]), .ro] (Prod.snd r4)) <|
  callB (rec 21 [OV.cont .box [FV.val (PV.ptr (some 3) (PV.deref (FV.pv (List.headD (OV.cells (List.headD (Prod.snd r4) (OV.flat FV.gone))) FV.gone))))]]) fun r5 => needB (okOs Go.Proofs.Try.prog [51] [] (Prod.fst r5)) <|
  needB (okOuts Go.Proofs.Try.prog [25] [.io (.b [false])] (Prod.snd r5)) <|
  callB (rec 22 [OV.cont .box [FV.val (PV.ptr (some 3) (PV.deref (FV.pv (List.headD (OV.cells (List.headD (Prod.snd r5) (OV.flat FV.gone))) FV.gone))))]]) fun r6 => needB (okOs Go.Proofs.Try.prog [3] [] (Prod.fst r6)) <|
  needB (okOuts Go.Proofs.Try.prog [25] [.io (.b [false])] (Prod.snd r6)) <|
  l1 x0 (PV.deref (FV.pv (List.headD (OV.cells (List.headD (Prod.snd r6) (OV.flat FV.gone))) FV.gone))) x2 (PV.toL (FV.pv (OV.fv (List.headD (Prod.fst r5) (OV.flat FV.gone))))) (PV.toI (FV.pv (OV.fv (List.headD (Prod.fst r6) (OV.flat FV.gone))))) [] (0 : Int))
  (callB (rec 21 [OV.cont .box [FV.val (PV.ptr (some 3) (PV.deref (FV.pv (List.headD (OV.cells (List.headD (Prod.snd r3) (OV.flat FV.gone))) FV.gone))))]]) fun r10 => needB (okOs Go.Proofs.Try.prog [51] [] (Prod.fst r10)) <|
  needB (okOuts Go.Proofs.Try.prog [25] [.io (.b [false])] (Prod.snd r10)) <|
  callB (rec 22 [OV.cont .box [FV.val (PV.ptr (some 3) (PV.deref (FV.pv (List.headD (OV.cells (List.headD (Prod.snd r10) (OV.flat FV.gone))) FV.gone))))]]) fun r11 => needB (okOs Go.Proofs.Try.prog [3] [] (Prod.fst r11)) <|
  needB (okOuts Go.Proofs.Try.prog [25] [.io (.b [false])] (Prod.snd r11)) <|
  l1 x0 (PV.deref (FV.pv (List.headD (OV.cells (List.headD (Prod.snd r11) (OV.flat FV.gone))) FV.gone))) x2 (PV.toL (FV.pv (OV.fv (List.headD (Prod.fst r10) (OV.flat FV.gone))))) (PV.toI (FV.pv (OV.fv (List.headD (Prod.fst r11) (OV.flat FV.gone))))) [] (0 : Int)))
  (needB (decide ((0 : Int) ≤ x2)) <|
  needB (decide (x2 < ((List.length x0 : Nat) : Int))) <|
  needB (hasT Go.Proofs.Try.prog 46 (nthP x0 (Int.toNat x2))) <|
  ifB (PV.toI (List.headD (PV.cells (nthP x0 (Int.toNat x2))) PV.undef) == (1 : Int))
  (needB (decide ((0 : Int) ≤ x2)) <|
  needB (decide (x2 < ((List.length x0 : Nat) : Int))) <|
  needB (hasT Go.Proofs.Try.prog 46 (nthP x0 (Int.toNat x2))) <|
  callB (rec 16 [OV.cont .box [FV.val (PV.ptr (some 3) x1)], OV.flat (FV.val (PV.sl none (PV.toL (List.headD (List.tail (PV.cells (nthP x0 (Int.toNat x2)))) PV.undef))))]) fun r12 => needB (okOs Go.Proofs.Try.prog [4] [] (Prod.fst r12)) <|
  needB (okOuts Go.Proofs.Try.prog [25, 23] [.io (.b [false]), .ro] (Prod.snd r12)) <|
  callB (rec 21 [OV.cont .box [FV.val (PV.ptr (some 3) (PV.deref (FV.pv (List.headD (OV.cells (List.headD (Prod.snd r12) (OV.flat FV.gone))) FV.gone))))]]) fun r13 => needB (okOs Go.Proofs.Try.prog [51] [] (Prod.fst r13)) <|
  needB (okOuts Go.Proofs.Try.prog [25] [.io (.b [false])] (Prod.snd r13)) <|
  callB (rec 22 [OV.cont .box [FV.val (PV.ptr (some 3) (PV.deref (FV.pv (List.headD (OV.cells (List.headD (Prod.snd r13) (OV.flat FV.gone))) FV.gone))))]]) fun r14 => needB (okOs Go.Proofs.Try.prog [3] [] (Prod.fst r14)) <|
  needB (okOuts Go.Proofs.Try.prog [25] [.io (.b [false])] (Prod.snd r14)) <|
  l1 x0 (PV.deref (FV.pv (List.headD (OV.cells (List.headD (Prod.snd r14) (OV.flat FV.gone))) FV.gone))) x2 (PV.toL (FV.pv (OV.fv (List.headD (Prod.fst r13) (OV.flat FV.gone))))) (PV.toI (FV.pv (OV.fv (List.headD (Prod.fst r14) (OV.flat FV.gone))))) [] (0 : Int))
  (callB (rec 21 [OV.cont .box [FV.val (PV.ptr (some 3) x1)]]) fun r15 => needB (okOs Go.Proofs.Try.prog [51] [] (Prod.fst r15)) <|
  needB (okOuts Go.Proofs.Try.prog [25] [.io (.b [false])] (Prod.snd r15)) <|
  callB (rec 22 [OV.cont .box [FV.val (PV.ptr (some 3) (PV.deref (FV.pv (List.headD (OV.cells (List.headD (Prod.snd r15) (OV.flat FV.gone))) FV.gone))))]]) fun r16 => needB (okOs Go.Proofs.Try.prog [3] [] (Prod.fst r16)) <|
  needB (okOuts Go.Proofs.Try.prog [25] [.io (.b [false])] (Prod.snd r16)) <|
  l1 x0 (PV.deref (FV.pv (List.headD (OV.cells (List.headD (Prod.snd r16) (OV.flat FV.gone))) FV.gone))) x2 (PV.toL (FV.pv (OV.fv (List.headD (Prod.fst r15) (OV.flat FV.gone))))) (PV.toI (FV.pv (OV.fv (List.headD (Prod.fst r16) (OV.flat FV.gone))))) [] (0 : Int))))
  (callB (rec 14 [OV.cont .box [FV.val (PV.ptr (some 3) x1)]]) fun r17 => needB (okOs Go.Proofs.Try.prog [3] [] (Prod.fst r17)) <|
  needB (okOuts Go.Proofs.Try.prog [25] [.io (.b [false])] (Prod.snd r17)) <|
  some ([OV.flat (FV.val (PV.bool (decide (PV.toI (FV.pv (OV.fv (List.headD (Prod.fst r17) (OV.flat FV.gone)))) ≥ (0 : Int)))))], [])))
  (callB (rec 14 [OV.cont .box [FV.val (PV.ptr (some 3) x1)]]) fun r18 => needB (okOs Go.Proofs.Try.prog [3] [] (Prod.fst r18)) <|
  needB (okOuts Go.Proofs.Try.prog [25] [.io (.b [false])] (Prod.snd r18)) <|
  some ([OV.flat (FV.val (PV.bool (decide (PV.toI (FV.pv (OV.fv (List.headD (Prod.fst r18) (OV.flat FV.gone)))) ≥ (0 : Int)))))], []))

noncomputable def f7_vestrylaw14_BtreeShapes.l0 (rec : Rec) (n : Nat) : Nat → List PV → PV → Int → Option (List OV × List OV)
  | 0, _, _, _ => none
  | m + 1, x0, x1, x2 => f7_vestrylaw14_BtreeShapes.l0.step rec n (f7_vestrylaw14_BtreeShapes.l1 rec n (f7_vestrylaw14_BtreeShapes.l0 rec n m) n) (f7_vestrylaw14_BtreeShapes.l0 rec n m) x0 x1 x2

theorem f7_vestrylaw14_BtreeShapes.l0_eq (rec : Rec) (n : Nat) : ∀ (m : Nat) (x0 : List PV) (x1 : PV) (x2 : Int), loopAt C rec n 7 [1, 1, 1, 1, 0, 1, 0] [] m [(0, SV.home (OV.flat (FV.val (PV.sl (some 6) x0)))), (4, SV.home (OV.cont .box [FV.val (PV.ptr (some 3) x1)])), (5, SV.home (OV.flat (FV.val (PV.int .i64 x2))))] = f7_vestrylaw14_BtreeShapes.l0 rec n m x0 x1 x2
  | 0, x0, x1, x2 => by kernel_rfl
  | m + 1, x0, x1, x2 => by
    have ih : (fun x0 x1 x2 => loopAt C rec n 7 [1, 1, 1, 1, 0, 1, 0] [] m [(0, SV.home (OV.flat (FV.val (PV.sl (some 6) x0)))), (4, SV.home (OV.cont .box [FV.val (PV.ptr (some 3) x1)])), (5, SV.home (OV.flat (FV.val (PV.int .i64 x2))))]) = f7_vestrylaw14_BtreeShapes.l0 rec n m := funext fun x0 => funext fun x1 => funext fun x2 => f7_vestrylaw14_BtreeShapes.l0_eq rec n m x0 x1 x2
    have i0 : (fun x0 x1 x2 x3 x4 x5 x6 => loopAt C rec n 7 [1, 1, 1, 1, 0, 1, 0, 0, 1, 0, 0, 1, 1, 1, 1, 1, 0, 1, 0] [m] n [(0, SV.home (OV.flat (FV.val (PV.sl (some 6) x0)))), (4, SV.home (OV.cont .box [FV.val (PV.ptr (some 3) x1)])), (5, SV.home (OV.flat (FV.val (PV.int .i64 x2)))), (6, SV.home (OV.flat (FV.val (PV.sl none x3)))), (7, SV.home (OV.flat (FV.val (PV.int .i64 x4)))), (8, SV.home (OV.flat (FV.own (some 2) x5 []))), (9, SV.home (OV.flat (FV.val (PV.int .i64 x6))))]) = f7_vestrylaw14_BtreeShapes.l1 rec n (fun x0 x1 x2 => loopAt C rec n 7 [1, 1, 1, 1, 0, 1, 0] [] m [(0, SV.home (OV.flat (FV.val (PV.sl (some 6) x0)))), (4, SV.home (OV.cont .box [FV.val (PV.ptr (some 3) x1)])), (5, SV.home (OV.flat (FV.val (PV.int .i64 x2))))]) n := funext fun x0 => funext fun x1 => funext fun x2 => funext fun x3 => funext fun x4 => funext fun x5 => funext fun x6 => f7_vestrylaw14_BtreeShapes.l1_eq rec n m n x0 x1 x2 x3 x4 x5 x6
    exact (show loopAt C rec n 7 [1, 1, 1, 1, 0, 1, 0] [] (m + 1) [(0, SV.home (OV.flat (FV.val (PV.sl (some 6) x0)))), (4, SV.home (OV.cont .box [FV.val (PV.ptr (some 3) x1)])), (5, SV.home (OV.flat (FV.val (PV.int .i64 x2))))] = f7_vestrylaw14_BtreeShapes.l0.step rec n (fun x0 x1 x2 x3 x4 x5 x6 => loopAt C rec n 7 [1, 1, 1, 1, 0, 1, 0, 0, 1, 0, 0, 1, 1, 1, 1, 1, 0, 1, 0] [m] n [(0, SV.home (OV.flat (FV.val (PV.sl (some 6) x0)))), (4, SV.home (OV.cont .box [FV.val (PV.ptr (some 3) x1)])), (5, SV.home (OV.flat (FV.val (PV.int .i64 x2)))), (6, SV.home (OV.flat (FV.val (PV.sl none x3)))), (7, SV.home (OV.flat (FV.val (PV.int .i64 x4)))), (8, SV.home (OV.flat (FV.own (some 2) x5 []))), (9, SV.home (OV.flat (FV.val (PV.int .i64 x6))))]) (fun x0 x1 x2 => loopAt C rec n 7 [1, 1, 1, 1, 0, 1, 0] [] m [(0, SV.home (OV.flat (FV.val (PV.sl (some 6) x0)))), (4, SV.home (OV.cont .box [FV.val (PV.ptr (some 3) x1)])), (5, SV.home (OV.flat (FV.val (PV.int .i64 x2))))]) x0 x1 x2 from by kernel_rfl).trans (by rw [i0, ih]; rfl)

noncomputable def f7_vestrylaw14_BtreeShapes.pre (rec : Rec) (n : Nat) (l0 : List PV → PV → Int → Option (List OV × List OV)) (a0 : List PV) : Option (List OV × List OV) :=
  callB (rec 8 []) fun r1 => needB (okOs Go.Proofs.Try.prog [4] [] (Prod.fst r1)) <|
  callB (rec 17 []) fun r2 => needB (okOs Go.Proofs.Try.prog [25] [.b [false]] (Prod.fst r2)) <|
  ifB (!(PV.toB (FV.pv (OV.fv (List.headD (Prod.fst r1) (OV.flat FV.gone))))))
  (some ([OV.flat (FV.val (PV.bool false))], []))
  (l0 a0 (PV.deref (FV.pv (List.headD (OV.cells (List.headD (Prod.fst r2) (OV.flat FV.gone))) FV.gone))) (0 : Int))

noncomputable def f7_vestrylaw14_BtreeShapes (rec : Rec) (n : Nat) (a0 : List PV) : Option (List OV × List OV) := f7_vestrylaw14_BtreeShapes.pre rec n (f7_vestrylaw14_BtreeShapes.l0 rec n n) a0

theorem f7_vestrylaw14_BtreeShapes_eq (rec : Rec) (n : Nat) (a0 : List PV) : callBody C rec n 7 [OV.flat (FV.val (PV.sl (some 6) a0))] = f7_vestrylaw14_BtreeShapes rec n a0 := by
  have i0 : (fun x0 x1 x2 => loopAt C rec n 7 [1, 1, 1, 1, 0, 1, 0] [] n [(0, SV.home (OV.flat (FV.val (PV.sl (some 6) x0)))), (4, SV.home (OV.cont .box [FV.val (PV.ptr (some 3) x1)])), (5, SV.home (OV.flat (FV.val (PV.int .i64 x2))))]) = f7_vestrylaw14_BtreeShapes.l0 rec n n := funext fun x0 => funext fun x1 => funext fun x2 => f7_vestrylaw14_BtreeShapes.l0_eq rec n n x0 x1 x2
  exact (show callBody C rec n 7 [OV.flat (FV.val (PV.sl (some 6) a0))] = f7_vestrylaw14_BtreeShapes.pre rec n (fun x0 x1 x2 => loopAt C rec n 7 [1, 1, 1, 1, 0, 1, 0] [] n [(0, SV.home (OV.flat (FV.val (PV.sl (some 6) x0)))), (4, SV.home (OV.cont .box [FV.val (PV.ptr (some 3) x1)])), (5, SV.home (OV.flat (FV.val (PV.int .i64 x2))))]) a0 from by kernel_rfl).trans (by rw [i0]; rfl)

noncomputable def f8_vestrylaw14_small.l0.step (rec : Rec) (n : Nat) (self_l0 : PV → Int → Option (List OV × List OV)) (x0 : PV) (x1 : Int) : Option (List OV × List OV) :=
  ifB (decide (x1 < (5 : Int)))
  (needB (Nat.blt 0 (List.length [PV.int .u8 (118 : Int)])) <|
  callB (rec 15 [OV.cont .box [FV.val (PV.ptr (some 3) x0)], OV.flat (FV.val (PV.sl none [PV.int .u8 (IntKind.wrap .u8 (IntKind.wrap .i64 ((97 : Int) + x1)))])), OV.flat (FV.val (PV.sl none [PV.int .u8 (118 : Int)]))]) fun r2 => needB (okOs Go.Proofs.Try.prog [4] [] (Prod.fst r2)) <|
  needB (okOuts Go.Proofs.Try.prog [25, 23, 23] [.io (.b [false]), .ro, .ro] (Prod.snd r2)) <|
  ifB (PV.toB (FV.pv (OV.fv (List.headD (Prod.fst r2) (OV.flat FV.gone)))))
  (some ([OV.flat (FV.val (PV.bool false))], []))
  (self_l0 (PV.deref (FV.pv (List.headD (OV.cells (List.headD (Prod.snd r2) (OV.flat FV.gone))) FV.gone))) (IntKind.wrap .i64 (x1 + (1 : Int)))))
  (needB (Nat.blt 0 (List.length [PV.int .u8 (98 : Int)])) <|
  needB (Nat.blt 0 (List.length [PV.int .u8 (100 : Int)])) <|
  callB (rec 10 [OV.cont .box [FV.val (PV.ptr (some 3) x0)], OV.flat (FV.val (PV.agg [PV.sl none [PV.int .u8 (98 : Int)], PV.sl none [PV.int .u8 (100 : Int)], PV.bool true]))]) fun r3 => needB (okOs Go.Proofs.Try.prog [27] [] (Prod.fst r3)) <|
  needB (okOuts Go.Proofs.Try.prog [25, 30] [.io (.b [false]), .ro] (Prod.snd r3)) <|
  needB (Nat.blt 0 (List.length [PV.int .u8 (99 : Int)])) <|
  callB (rec 13 [OV.cont .box [FV.val (PV.ptr (some 3) (PV.deref (FV.pv (List.headD (OV.cells (List.headD (Prod.snd r3) (OV.flat FV.gone))) FV.gone))))], OV.flat (FV.val (PV.sl none [PV.int .u8 (99 : Int)]))]) fun r4 => needB (okOs Go.Proofs.Try.prog [23, 4] [.o, .v] (Prod.fst r4)) <|
  needB (okOuts Go.Proofs.Try.prog [25, 23] [.io (.b [false]), .ro] (Prod.snd r4)) <|
  callB (rec 14 [OV.cont .box [FV.val (PV.ptr (some 3) (PV.deref (FV.pv (List.headD (OV.cells (List.headD (Prod.snd r4) (OV.flat FV.gone))) FV.gone))))]]) fun r5 => needB (okOs Go.Proofs.Try.prog [3] [] (Prod.fst r5)) <|
  needB (okOuts Go.Proofs.Try.prog [25] [.io (.b [false])] (Prod.snd r5)) <|
  ifB (PV.toI (FV.pv (OV.fv (List.headD (Prod.fst r5) (OV.flat FV.gone)))) == (5 : Int))
  (callB (rec 22 [OV.cont .box [FV.val (PV.ptr (some 3) (PV.deref (FV.pv (List.headD (OV.cells (List.headD (Prod.snd r5) (OV.flat FV.gone))) FV.gone))))]]) fun r6 => needB (okOs Go.Proofs.Try.prog [3] [] (Prod.fst r6)) <|
  needB (okOuts Go.Proofs.Try.prog [25] [.io (.b [false])] (Prod.snd r6)) <|
  ifB (PV.toI (FV.pv (OV.fv (List.headD (Prod.fst r6) (OV.flat FV.gone)))) == (2 : Int))
  (ifB (((List.length (PV.toL (FV.pv (OV.fv (List.headD (Prod.fst r3) (OV.flat FV.gone))))) : Nat) : Int) == (2 : Int))
  (needB (decide ((0 : Int) < ((List.length (PV.toL (FV.pv (OV.fv (List.headD (Prod.fst r3) (OV.flat FV.gone))))) : Nat) : Int))) <|
  needB (hasT Go.Proofs.Try.prog 33 (nthP (PV.toL (FV.pv (OV.fv (List.headD (Prod.fst r3) (OV.flat FV.gone))))) 0)) <|
  needB (List.all (PV.toL (List.headD (PV.cells (nthP (PV.toL (FV.pv (OV.fv (List.headD (Prod.fst r3) (OV.flat FV.gone))))) 0)) PV.undef)) isByte) <|
  ifB ((List.map u8Of (PV.toL (List.headD (PV.cells (nthP (PV.toL (FV.pv (OV.fv (List.headD (Prod.fst r3) (OV.flat FV.gone))))) 0)) PV.undef))) == ([98] : List UInt8))
  (ifB (PV.toB (FV.pv (OV.fv (List.headD (List.tail (Prod.fst r4)) (OV.flat FV.gone)))))
  (needB (List.all (FV.xs (OV.fv (List.headD (Prod.fst r4) (OV.flat FV.gone)))) isByte) <|
  some ([OV.flat (FV.val (PV.bool ((List.map u8Of (FV.xs (OV.fv (List.headD (Prod.fst r4) (OV.flat FV.gone))))) == ([118] : List UInt8))))], []))
  (some ([OV.flat (FV.val (PV.bool false))], [])))
  (some ([OV.flat (FV.val (PV.bool false))], [])))
  (some ([OV.flat (FV.val (PV.bool false))], [])))
  (some ([OV.flat (FV.val (PV.bool false))], [])))
  (some ([OV.flat (FV.val (PV.bool false))], [])))

noncomputable def f8_vestrylaw14_small.l0 (rec : Rec) (n : Nat) : Nat → PV → Int → Option (List OV × List OV)
  | 0, _, _ => none
  | m + 1, x0, x1 => f8_vestrylaw14_small.l0.step rec n (f8_vestrylaw14_small.l0 rec n m) x0 x1

theorem f8_vestrylaw14_small.l0_eq (rec : Rec) (n : Nat) : ∀ (m : Nat) (x0 : PV) (x1 : Int), loopAt C rec n 8 [1, 1, 1, 0, 1, 0] [] m [(1, SV.home (OV.cont .box [FV.val (PV.ptr (some 3) x0)])), (2, SV.home (OV.flat (FV.val (PV.int .i64 x1))))] = f8_vestrylaw14_small.l0 rec n m x0 x1
  | 0, x0, x1 => by kernel_rfl
  | m + 1, x0, x1 => by
    have ih : (fun x0 x1 => loopAt C rec n 8 [1, 1, 1, 0, 1, 0] [] m [(1, SV.home (OV.cont .box [FV.val (PV.ptr (some 3) x0)])), (2, SV.home (OV.flat (FV.val (PV.int .i64 x1))))]) = f8_vestrylaw14_small.l0 rec n m := funext fun x0 => funext fun x1 => f8_vestrylaw14_small.l0_eq rec n m x0 x1
    exact (show loopAt C rec n 8 [1, 1, 1, 0, 1, 0] [] (m + 1) [(1, SV.home (OV.cont .box [FV.val (PV.ptr (some 3) x0)])), (2, SV.home (OV.flat (FV.val (PV.int .i64 x1))))] = f8_vestrylaw14_small.l0.step rec n (fun x0 x1 => loopAt C rec n 8 [1, 1, 1, 0, 1, 0] [] m [(1, SV.home (OV.cont .box [FV.val (PV.ptr (some 3) x0)])), (2, SV.home (OV.flat (FV.val (PV.int .i64 x1))))]) x0 x1 from by kernel_rfl).trans (by rw [ih]; rfl)

noncomputable def f8_vestrylaw14_small.pre (rec : Rec) (n : Nat) (l0 : PV → Int → Option (List OV × List OV))  : Option (List OV × List OV) :=
  callB (rec 17 []) fun r1 => needB (okOs Go.Proofs.Try.prog [25] [.b [false]] (Prod.fst r1)) <|
  l0 (PV.deref (FV.pv (List.headD (OV.cells (List.headD (Prod.fst r1) (OV.flat FV.gone))) FV.gone))) (0 : Int)

noncomputable def f8_vestrylaw14_small (rec : Rec) (n : Nat)  : Option (List OV × List OV) := f8_vestrylaw14_small.pre rec n (f8_vestrylaw14_small.l0 rec n n) 

theorem f8_vestrylaw14_small_eq (rec : Rec) (n : Nat)  : callBody C rec n 8 [] = f8_vestrylaw14_small rec n  := by
  have i0 : (fun x0 x1 => loopAt C rec n 8 [1, 1, 1, 0, 1, 0] [] n [(1, SV.home (OV.cont .box [FV.val (PV.ptr (some 3) x0)])), (2, SV.home (OV.flat (FV.val (PV.int .i64 x1))))]) = f8_vestrylaw14_small.l0 rec n n := funext fun x0 => funext fun x1 => f8_vestrylaw14_small.l0_eq rec n n x0 x1
  exact (show callBody C rec n 8 [] = f8_vestrylaw14_small.pre rec n (fun x0 x1 => loopAt C rec n 8 [1, 1, 1, 0, 1, 0] [] n [(1, SV.home (OV.cont .box [FV.val (PV.ptr (some 3) x0)])), (2, SV.home (OV.flat (FV.val (PV.int .i64 x1))))])  from by kernel_rfl).trans (by rw [i0]; rfl)

noncomputable def f9_vestrylaw14_made.l0.step (rec : Rec) (n : Nat) (self_l0 : List PV → PV → Int → Option (List OV × List OV)) (x0 : List PV) (x1 : PV) (x2 : Int) : Option (List OV × List OV) :=
  ifB (decide (x2 < ((List.length x0 : Nat) : Int)))
  (ifB (decide (x2 < (80 : Int)))
  (needB (decide ((0 : Int) ≤ x2)) <|
  needB (decide (x2 < ((List.length x0 : Nat) : Int))) <|
  needB (hasT Go.Proofs.Try.prog 46 (nthP x0 (Int.toNat x2))) <|
  ifB (PV.toI (List.headD (PV.cells (nthP x0 (Int.toNat x2))) PV.undef) == (0 : Int))
  (needB (decide ((0 : Int) ≤ x2)) <|
  needB (decide (x2 < ((List.length x0 : Nat) : Int))) <|
  needB (hasT Go.Proofs.Try.prog 46 (nthP x0 (Int.toNat x2))) <|
  needB (decide ((0 : Int) ≤ x2)) <|
  needB (decide (x2 < ((List.length x0 : Nat) : Int))) <|
  needB (hasT Go.Proofs.Try.prog 46 (nthP x0 (Int.toNat x2))) <|
  callB (rec 15 [OV.cont .box [FV.val (PV.ptr (some 3) x1)], OV.flat (FV.val (PV.sl none (PV.toL (List.headD (List.tail (PV.cells (nthP x0 (Int.toNat x2)))) PV.undef)))), OV.flat (FV.val (PV.sl none (PV.toL (List.headD (List.tail (List.tail (PV.cells (nthP x0 (Int.toNat x2))))) PV.undef))))]) fun r2 => needB (okOs Go.Proofs.Try.prog [4] [] (Prod.fst r2)) <|
  needB (okOuts Go.Proofs.Try.prog [25, 23, 23] [.io (.b [false]), .ro, .ro] (Prod.snd r2)) <|
  needB (decide ((0 : Int) ≤ x2)) <|
  needB (decide (x2 < ((List.length x0 : Nat) : Int))) <|
  needB (hasT Go.Proofs.Try.prog 46 (nthP x0 (Int.toNat x2))) <|
  ifB (PV.toI (List.headD (PV.cells (nthP x0 (Int.toNat x2))) PV.undef) == (1 : Int))
  (needB (decide ((0 : Int) ≤ x2)) <|
  needB (decide (x2 < ((List.length x0 : Nat) : Int))) <|
  needB (hasT Go.Proofs.Try.prog 46 (nthP x0 (Int.toNat x2))) <|
  callB (rec 16 [OV.cont .box [FV.val (PV.ptr (some 3) (PV.deref (FV.pv (List.headD (OV.cells (List.headD (Prod.snd r2) (OV.flat FV.gone))) FV.gone))))], OV.flat (FV.val (PV.sl none (PV.toL (List.headD (List.tail (PV.cells (nthP x0 (Int.toNat x2)))) PV.undef))))]) fun r3 => needB (okOs Go.Proofs.Try.prog [4] [] (Prod.fst r3)) <|
  needB (okOuts Go.Proofs.Try.prog [25, 23] [.io (.b [false]), .ro] (Prod.snd r3)) <|
  self_l0 x0 (PV.deref (FV.pv (List.headD (OV.cells (List.headD (Prod.snd r3) (OV.flat FV.gone))) FV.gone))) (IntKind.wrap .i64 (x2 + (1 : Int))))
  (self_l0 x0 (PV.deref (FV.pv (List.headD (OV.cells (List.headD (Prod.snd r2) (OV.flat FV.gone))) FV.gone))) (IntKind.wrap .i64 (x2 + (1 : Int)))))
  (needB (decide ((0 : Int) ≤ x2)) <|
  needB (decide (x2 < ((List.length x0 : Nat) : Int))) <|
  needB (hasT Go.Proofs.Try.prog 46 (nthP x0 (Int.toNat x2))) <|
  ifB (PV.toI (List.headD (PV.cells (nthP x0 (Int.toNat x2))) PV.undef) == (1 : Int))
  (needB (decide ((0 : Int) ≤ x2)) <|
  needB (decide (x2 < ((List.length x0 : Nat) : Int))) <|
  needB (hasT Go.Proofs.Try.prog 46 (nthP x0 (Int.toNat x2))) <|
  callB (rec 16 [OV.cont .box [FV.val (PV.ptr (some 3) x1)], OV.flat (FV.val (PV.sl none (PV.toL (List.headD (List.tail (PV.cells (nthP x0 (Int.toNat x2)))) PV.undef))))]) fun r4 => needB (okOs Go.Proofs.Try.prog [4] [] (Prod.fst r4)) <|
  needB (okOuts Go.Proofs.Try.prog [25, 23] [.io (.b [false]), .ro] (Prod.snd r4)) <|
  self_l0 x0 (PV.deref (FV.pv (List.headD (OV.cells (List.headD (Prod.snd r4) (OV.flat FV.gone))) FV.gone))) (IntKind.wrap .i64 (x2 + (1 : Int))))
  (self_l0 x0 x1 (IntKind.wrap .i64 (x2 + (1 : Int))))))
  (some ([OV.cont .box [FV.val (PV.ptr (some 3) x1)]], [])))
  (some ([OV.cont .box [FV.val (PV.ptr (some 3) x1)]], []))

noncomputable def f9_vestrylaw14_made.l0 (rec : Rec) (n : Nat) : Nat → List PV → PV → Int → Option (List OV × List OV)
  | 0, _, _, _ => none
  | m + 1, x0, x1, x2 => f9_vestrylaw14_made.l0.step rec n (f9_vestrylaw14_made.l0 rec n m) x0 x1 x2

theorem f9_vestrylaw14_made.l0_eq (rec : Rec) (n : Nat) : ∀ (m : Nat) (x0 : List PV) (x1 : PV) (x2 : Int), loopAt C rec n 9 [1, 1, 0, 1, 0] [] m [(0, SV.home (OV.flat (FV.val (PV.sl (some 6) x0)))), (3, SV.home (OV.cont .box [FV.val (PV.ptr (some 3) x1)])), (4, SV.home (OV.flat (FV.val (PV.int .i64 x2))))] = f9_vestrylaw14_made.l0 rec n m x0 x1 x2
  | 0, x0, x1, x2 => by kernel_rfl
  | m + 1, x0, x1, x2 => by
    have ih : (fun x0 x1 x2 => loopAt C rec n 9 [1, 1, 0, 1, 0] [] m [(0, SV.home (OV.flat (FV.val (PV.sl (some 6) x0)))), (3, SV.home (OV.cont .box [FV.val (PV.ptr (some 3) x1)])), (4, SV.home (OV.flat (FV.val (PV.int .i64 x2))))]) = f9_vestrylaw14_made.l0 rec n m := funext fun x0 => funext fun x1 => funext fun x2 => f9_vestrylaw14_made.l0_eq rec n m x0 x1 x2
    exact (show loopAt C rec n 9 [1, 1, 0, 1, 0] [] (m + 1) [(0, SV.home (OV.flat (FV.val (PV.sl (some 6) x0)))), (3, SV.home (OV.cont .box [FV.val (PV.ptr (some 3) x1)])), (4, SV.home (OV.flat (FV.val (PV.int .i64 x2))))] = f9_vestrylaw14_made.l0.step rec n (fun x0 x1 x2 => loopAt C rec n 9 [1, 1, 0, 1, 0] [] m [(0, SV.home (OV.flat (FV.val (PV.sl (some 6) x0)))), (3, SV.home (OV.cont .box [FV.val (PV.ptr (some 3) x1)])), (4, SV.home (OV.flat (FV.val (PV.int .i64 x2))))]) x0 x1 x2 from by kernel_rfl).trans (by rw [ih]; rfl)

noncomputable def f9_vestrylaw14_made.pre (rec : Rec) (n : Nat) (l0 : List PV → PV → Int → Option (List OV × List OV)) (a0 : List PV) : Option (List OV × List OV) :=
  callB (rec 17 []) fun r1 => needB (okOs Go.Proofs.Try.prog [25] [.b [false]] (Prod.fst r1)) <|
  l0 a0 (PV.deref (FV.pv (List.headD (OV.cells (List.headD (Prod.fst r1) (OV.flat FV.gone))) FV.gone))) (0 : Int)

noncomputable def f9_vestrylaw14_made (rec : Rec) (n : Nat) (a0 : List PV) : Option (List OV × List OV) := f9_vestrylaw14_made.pre rec n (f9_vestrylaw14_made.l0 rec n n) a0

theorem f9_vestrylaw14_made_eq (rec : Rec) (n : Nat) (a0 : List PV) : callBody C rec n 9 [OV.flat (FV.val (PV.sl (some 6) a0))] = f9_vestrylaw14_made rec n a0 := by
  have i0 : (fun x0 x1 x2 => loopAt C rec n 9 [1, 1, 0, 1, 0] [] n [(0, SV.home (OV.flat (FV.val (PV.sl (some 6) x0)))), (3, SV.home (OV.cont .box [FV.val (PV.ptr (some 3) x1)])), (4, SV.home (OV.flat (FV.val (PV.int .i64 x2))))]) = f9_vestrylaw14_made.l0 rec n n := funext fun x0 => funext fun x1 => funext fun x2 => f9_vestrylaw14_made.l0_eq rec n n x0 x1 x2
  exact (show callBody C rec n 9 [OV.flat (FV.val (PV.sl (some 6) a0))] = f9_vestrylaw14_made.pre rec n (fun x0 x1 x2 => loopAt C rec n 9 [1, 1, 0, 1, 0] [] n [(0, SV.home (OV.flat (FV.val (PV.sl (some 6) x0)))), (3, SV.home (OV.cont .box [FV.val (PV.ptr (some 3) x1)])), (4, SV.home (OV.flat (FV.val (PV.int .i64 x2))))]) a0 from by kernel_rfl).trans (by rw [i0]; rfl)

noncomputable def f11_vestryref14_In (rec : Rec) (n : Nat) (a0 : List PV) (a1 : List PV) (a2 : Bool) (a3 : List PV) : Option (List OV × List OV) :=
  needB (List.all a3 isByte) <|
  needB (List.all a0 isByte) <|
  ifB (!(Op.bytesLess (List.map u8Of a3) (List.map u8Of a0)))
  (ifB (!a2)
  (some ([OV.flat (FV.val (PV.bool true))], []))
  (needB (List.all a3 isByte) <|
  needB (List.all a1 isByte) <|
  some ([OV.flat (FV.val (PV.bool (Op.bytesLess (List.map u8Of a3) (List.map u8Of a1))))], [])))
  (some ([OV.flat (FV.val (PV.bool false))], []))

theorem f11_vestryref14_In_eq (rec : Rec) (n : Nat) (a0 : List PV) (a1 : List PV) (a2 : Bool) (a3 : List PV) : callBody C rec n 11 [OV.flat (FV.val (PV.agg [PV.sl none a0, PV.sl none a1, PV.bool a2])), OV.flat (FV.val (PV.sl none a3))] = f11_vestryref14_In rec n a0 a1 a2 a3 := by kernel_rfl

noncomputable def f12_vestryref04_Same.l0.step (rec : Rec) (n : Nat) (self_l0 : List PV → List PV → Int → Option (List OV × List OV)) (x0 : List PV) (x1 : List PV) (x2 : Int) : Option (List OV × List OV) :=
  ifB (decide (x2 < ((List.length x0 : Nat) : Int)))
  (needB (decide ((0 : Int) ≤ x2)) <|
  needB (decide (x2 < ((List.length x0 : Nat) : Int))) <|
  needB (hasT Go.Proofs.Try.prog 33 (nthP x0 (Int.toNat x2))) <|
  needB (List.all (PV.toL (List.headD (PV.cells (nthP x0 (Int.toNat x2))) PV.undef)) isByte) <|
  needB (decide ((0 : Int) ≤ x2)) <|
  needB (decide (x2 < ((List.length x1 : Nat) : Int))) <|
  needB (hasT Go.Proofs.Try.prog 33 (nthP x1 (Int.toNat x2))) <|
  needB (List.all (PV.toL (List.headD (PV.cells (nthP x1 (Int.toNat x2))) PV.undef)) isByte) <|
  ifB (!((List.map u8Of (PV.toL (List.headD (PV.cells (nthP x0 (Int.toNat x2))) PV.undef))) == (List.map u8Of (PV.toL (List.headD (PV.cells (nthP x1 (Int.toNat x2))) PV.undef)))))
  (some ([OV.flat (FV.val (PV.bool false))], []))
  (needB (decide ((0 : Int) ≤ x2)) <|
  needB (decide (x2 < ((List.length x0 : Nat) : Int))) <|
  needB (hasT Go.Proofs.Try.prog 33 (nthP x0 (Int.toNat x2))) <|
  needB (List.all (PV.toL (List.headD (List.tail (PV.cells (nthP x0 (Int.toNat x2)))) PV.undef)) isByte) <|
  needB (decide ((0 : Int) ≤ x2)) <|
  needB (decide (x2 < ((List.length x1 : Nat) : Int))) <|
  needB (hasT Go.Proofs.Try.prog 33 (nthP x1 (Int.toNat x2))) <|
  needB (List.all (PV.toL (List.headD (List.tail (PV.cells (nthP x1 (Int.toNat x2)))) PV.undef)) isByte) <|
  ifB (!((List.map u8Of (PV.toL (List.headD (List.tail (PV.cells (nthP x0 (Int.toNat x2)))) PV.undef))) == (List.map u8Of (PV.toL (List.headD (List.tail (PV.cells (nthP x1 (Int.toNat x2)))) PV.undef)))))
  (some ([OV.flat (FV.val (PV.bool false))], []))
  (self_l0 x0 x1 (IntKind.wrap .i64 (x2 + (1 : Int))))))
  (some ([OV.flat (FV.val (PV.bool true))], []))

noncomputable def f12_vestryref04_Same.l0 (rec : Rec) (n : Nat) : Nat → List PV → List PV → Int → Option (List OV × List OV)
  | 0, _, _, _ => none
  | m + 1, x0, x1, x2 => f12_vestryref04_Same.l0.step rec n (f12_vestryref04_Same.l0 rec n m) x0 x1 x2

theorem f12_vestryref04_Same.l0_eq (rec : Rec) (n : Nat) : ∀ (m : Nat) (x0 : List PV) (x1 : List PV) (x2 : Int), loopAt C rec n 12 [1, 1, 0, 1, 0] [] m [(0, SV.home (OV.flat (FV.val (PV.sl (some 2) x0)))), (1, SV.home (OV.flat (FV.val (PV.sl (some 2) x1)))), (5, SV.home (OV.flat (FV.val (PV.int .i64 x2))))] = f12_vestryref04_Same.l0 rec n m x0 x1 x2
  | 0, x0, x1, x2 => by kernel_rfl
  | m + 1, x0, x1, x2 => by
    have ih : (fun x0 x1 x2 => loopAt C rec n 12 [1, 1, 0, 1, 0] [] m [(0, SV.home (OV.flat (FV.val (PV.sl (some 2) x0)))), (1, SV.home (OV.flat (FV.val (PV.sl (some 2) x1)))), (5, SV.home (OV.flat (FV.val (PV.int .i64 x2))))]) = f12_vestryref04_Same.l0 rec n m := funext fun x0 => funext fun x1 => funext fun x2 => f12_vestryref04_Same.l0_eq rec n m x0 x1 x2
    exact (show loopAt C rec n 12 [1, 1, 0, 1, 0] [] (m + 1) [(0, SV.home (OV.flat (FV.val (PV.sl (some 2) x0)))), (1, SV.home (OV.flat (FV.val (PV.sl (some 2) x1)))), (5, SV.home (OV.flat (FV.val (PV.int .i64 x2))))] = f12_vestryref04_Same.l0.step rec n (fun x0 x1 x2 => loopAt C rec n 12 [1, 1, 0, 1, 0] [] m [(0, SV.home (OV.flat (FV.val (PV.sl (some 2) x0)))), (1, SV.home (OV.flat (FV.val (PV.sl (some 2) x1)))), (5, SV.home (OV.flat (FV.val (PV.int .i64 x2))))]) x0 x1 x2 from by kernel_rfl).trans (by rw [ih]; rfl)

noncomputable def f12_vestryref04_Same.pre (rec : Rec) (n : Nat) (l0 : List PV → List PV → Int → Option (List OV × List OV)) (a0 : List PV) (a1 : List PV) : Option (List OV × List OV) :=
  ifB (((List.length a0 : Nat) : Int) != ((List.length a1 : Nat) : Int))
  (some ([OV.flat (FV.val (PV.bool false))], []))
  (l0 a0 a1 (0 : Int))

noncomputable def f12_vestryref04_Same (rec : Rec) (n : Nat) (a0 : List PV) (a1 : List PV) : Option (List OV × List OV) := f12_vestryref04_Same.pre rec n (f12_vestryref04_Same.l0 rec n n) a0 a1

theorem f12_vestryref04_Same_eq (rec : Rec) (n : Nat) (a0 : List PV) (a1 : List PV) : callBody C rec n 12 [OV.flat (FV.val (PV.sl (some 2) a0)), OV.flat (FV.val (PV.sl (some 2) a1))] = f12_vestryref04_Same rec n a0 a1 := by
  have i0 : (fun x0 x1 x2 => loopAt C rec n 12 [1, 1, 0, 1, 0] [] n [(0, SV.home (OV.flat (FV.val (PV.sl (some 2) x0)))), (1, SV.home (OV.flat (FV.val (PV.sl (some 2) x1)))), (5, SV.home (OV.flat (FV.val (PV.int .i64 x2))))]) = f12_vestryref04_Same.l0 rec n n := funext fun x0 => funext fun x1 => funext fun x2 => f12_vestryref04_Same.l0_eq rec n n x0 x1 x2
  exact (show callBody C rec n 12 [OV.flat (FV.val (PV.sl (some 2) a0)), OV.flat (FV.val (PV.sl (some 2) a1))] = f12_vestryref04_Same.pre rec n (fun x0 x1 x2 => loopAt C rec n 12 [1, 1, 0, 1, 0] [] n [(0, SV.home (OV.flat (FV.val (PV.sl (some 2) x0)))), (1, SV.home (OV.flat (FV.val (PV.sl (some 2) x1)))), (5, SV.home (OV.flat (FV.val (PV.int .i64 x2))))]) a0 a1 from by kernel_rfl).trans (by rw [i0]; rfl)

noncomputable def f13_btree_Tree_Get (rec : Rec) (n : Nat) (a0 : PV) (a1 : List PV) : Option (List OV × List OV) :=
  callB (rec 26 [OV.cont .box [FV.val (PV.ptr (some 3) a0)], OV.flat (FV.val (PV.sl none a1))]) fun r1 => needB (okOs Go.Proofs.Try.prog [33, 4] [] (Prod.fst r1)) <|
  needB (okOuts Go.Proofs.Try.prog [25, 23] [.io (.b [false]), .ro] (Prod.snd r1)) <|
  callB (rec 27 [OV.flat (FV.val (PV.sl none (PV.toL (List.headD (List.tail (PV.cells (FV.pv (OV.fv (List.headD (Prod.fst r1) (OV.flat FV.gone)))))) PV.undef))))]) fun r2 => needB (okOs Go.Proofs.Try.prog [23] [.o] (Prod.fst r2)) <|
  some ([OV.flat (FV.own none (FV.xs (OV.fv (List.headD (Prod.fst r2) (OV.flat FV.gone)))) []), OV.flat (FV.val (PV.bool (PV.toB (FV.pv (OV.fv (List.headD (List.tail (Prod.fst r1)) (OV.flat FV.gone)))))))], [OV.cont .box [FV.val (PV.ptr (some 3) (PV.deref (FV.pv (List.headD (OV.cells (List.headD (Prod.snd r1) (OV.flat FV.gone))) FV.gone))))], OV.flat FV.gone])

theorem f13_btree_Tree_Get_eq (rec : Rec) (n : Nat) (a0 : PV) (a1 : List PV) : callBody C rec n 13 [OV.cont .box [FV.val (PV.ptr (some 3) a0)], OV.flat (FV.val (PV.sl none a1))] = f13_btree_Tree_Get rec n a0 a1 := by kernel_rfl

noncomputable def f14_btree_Tree_Count (rec : Rec) (n : Nat) (a0 : PV) : Option (List OV × List OV) :=
  needB (isPtrS (PV.ptr (some 3) a0) && hasT Go.Proofs.Try.prog 63 (PV.deref (PV.ptr (some 3) a0))) <|
  some ([OV.flat (FV.val (PV.int .i64 (PV.toI (List.headD (List.tail (List.tail (PV.cells (PV.deref (PV.ptr (some 3) a0))))) PV.undef))))], [OV.cont .box [FV.val (PV.ptr (some 3) a0)]])

theorem f14_btree_Tree_Count_eq (rec : Rec) (n : Nat) (a0 : PV) : callBody C rec n 14 [OV.cont .box [FV.val (PV.ptr (some 3) a0)]] = f14_btree_Tree_Count rec n a0 := by kernel_rfl

noncomputable def f15_btree_Tree_Put (rec : Rec) (n : Nat) (a0 : PV) (a1 : List PV) (a2 : List PV) : Option (List OV × List OV) :=
  callB (rec 26 [OV.cont .box [FV.val (PV.ptr (some 3) a0)], OV.flat (FV.val (PV.sl none a1))]) fun r1 => needB (okOs Go.Proofs.Try.prog [33, 4] [] (Prod.fst r1)) <|
  needB (okOuts Go.Proofs.Try.prog [25, 23] [.io (.b [false]), .ro] (Prod.snd r1)) <|
  callB (rec 27 [OV.flat (FV.val (PV.sl none a1))]) fun r2 => needB (okOs Go.Proofs.Try.prog [23] [.o] (Prod.fst r2)) <|
  callB (rec 27 [OV.flat (FV.val (PV.sl none a2))]) fun r3 => needB (okOs Go.Proofs.Try.prog [23] [.o] (Prod.fst r3)) <|
  callB (rec 28 [OV.flat (FV.val (PV.ptr (some 3) (PV.deref (FV.pv (List.headD (OV.cells (List.headD (Prod.snd r1) (OV.flat FV.gone))) FV.gone))))), OV.flat (FV.val (PV.agg [PV.sl none (FV.xs (OV.fv (List.headD (Prod.fst r2) (OV.flat FV.gone)))), PV.sl none (FV.xs (OV.fv (List.headD (Prod.fst r3) (OV.flat FV.gone))))]))]) fun r4 => needB (okOs Go.Proofs.Try.prog [61] [.o] (Prod.fst r4)) <|
  needB (decide ((0 : Int) < ((List.length (FV.xs (OV.fv (List.headD (Prod.fst r4) (OV.flat FV.gone)))) : Nat) : Int))) <|
  needB (Nat.blt 0 (List.length (FV.xs (OV.fv (List.headD (Prod.fst r4) (OV.flat FV.gone)))))) <|
  needB (hasT Go.Proofs.Try.prog 55 (nthP (FV.xs (OV.fv (List.headD (Prod.fst r4) (OV.flat FV.gone)))) 0)) <|
  ifB (decide (((List.length (FV.xs (OV.fv (List.headD (Prod.fst r4) (OV.flat FV.gone)))) : Nat) : Int) > (1 : Int)))
  (callB (rec 29 [OV.flat (FV.val (PV.sl none (FV.xs (OV.fv (List.headD (Prod.fst r4) (OV.flat FV.gone))))))]) fun r5 => needB (okOs Go.Proofs.Try.prog [55] [] (Prod.fst r5)) <|
  some ([OV.flat (FV.val (PV.bool (PV.toB (FV.pv (OV.fv (List.headD (List.tail (Prod.fst r1)) (OV.flat FV.gone)))))))], [OV.cont .box [FV.val (PV.ptr (some 3) (PV.deref (FV.pv (OV.fv (List.headD (Prod.fst r5) (OV.flat FV.gone))))))], OV.flat FV.gone, OV.flat FV.gone]))
  (some ([OV.flat (FV.val (PV.bool (PV.toB (FV.pv (OV.fv (List.headD (List.tail (Prod.fst r1)) (OV.flat FV.gone)))))))], [OV.cont .box [FV.val (PV.ptr (some 3) (PV.deref (nthP (FV.xs (OV.fv (List.headD (Prod.fst r4) (OV.flat FV.gone)))) 0)))], OV.flat FV.gone, OV.flat FV.gone]))

theorem f15_btree_Tree_Put_eq (rec : Rec) (n : Nat) (a0 : PV) (a1 : List PV) (a2 : List PV) : callBody C rec n 15 [OV.cont .box [FV.val (PV.ptr (some 3) a0)], OV.flat (FV.val (PV.sl none a1)), OV.flat (FV.val (PV.sl none a2))] = f15_btree_Tree_Put rec n a0 a1 a2 := by kernel_rfl

noncomputable def f16_btree_Tree_Delete (rec : Rec) (n : Nat) (a0 : PV) (a1 : List PV) : Option (List OV × List OV) :=
  callB (rec 26 [OV.cont .box [FV.val (PV.ptr (some 3) a0)], OV.flat (FV.val (PV.sl none a1))]) fun r1 => needB (okOs Go.Proofs.Try.prog [33, 4] [] (Prod.fst r1)) <|
  needB (okOuts Go.Proofs.Try.prog [25, 23] [.io (.b [false]), .ro] (Prod.snd r1)) <|
  ifB (!(PV.toB (FV.pv (OV.fv (List.headD (List.tail (Prod.fst r1)) (OV.flat FV.gone))))))
  (some ([OV.flat (FV.val (PV.bool false))], [OV.cont .box [FV.val (PV.ptr (some 3) (PV.deref (FV.pv (List.headD (OV.cells (List.headD (Prod.snd r1) (OV.flat FV.gone))) FV.gone))))], OV.flat FV.gone]))
  (callB (rec 30 [OV.flat (FV.val (PV.ptr (some 3) (PV.deref (FV.pv (List.headD (OV.cells (List.headD (Prod.snd r1) (OV.flat FV.gone))) FV.gone))))), OV.flat (FV.val (PV.sl none a1))]) fun r2 => needB (okOs Go.Proofs.Try.prog [55] [] (Prod.fst r2)) <|
  needB (isPtrS (PV.ptr (some 3) (PV.deref (FV.pv (OV.fv (List.headD (Prod.fst r2) (OV.flat FV.gone)))))) && hasT Go.Proofs.Try.prog 63 (PV.deref (PV.ptr (some 3) (PV.deref (FV.pv (OV.fv (List.headD (Prod.fst r2) (OV.flat FV.gone)))))))) <|
  ifB (((List.length (PV.toL (List.headD (List.tail (PV.cells (PV.deref (PV.ptr (some 3) (PV.deref (FV.pv (OV.fv (List.headD (Prod.fst r2) (OV.flat FV.gone))))))))) PV.undef)) : Nat) : Int) == (1 : Int))
  (needB (isPtrS (PV.ptr (some 3) (PV.deref (FV.pv (OV.fv (List.headD (Prod.fst r2) (OV.flat FV.gone)))))) && hasT Go.Proofs.Try.prog 63 (PV.deref (PV.ptr (some 3) (PV.deref (FV.pv (OV.fv (List.headD (Prod.fst r2) (OV.flat FV.gone)))))))) <|
  needB (decide ((0 : Int) < ((List.length (PV.toL (List.headD (List.tail (PV.cells (PV.deref (PV.ptr (some 3) (PV.deref (FV.pv (OV.fv (List.headD (Prod.fst r2) (OV.flat FV.gone))))))))) PV.undef)) : Nat) : Int))) <|
  needB (hasT Go.Proofs.Try.prog 55 (nthP (PV.toL (List.headD (List.tail (PV.cells (PV.deref (PV.ptr (some 3) (PV.deref (FV.pv (OV.fv (List.headD (Prod.fst r2) (OV.flat FV.gone))))))))) PV.undef)) 0)) <|
  some ([OV.flat (FV.val (PV.bool true))], [OV.cont .box [FV.val (PV.ptr (some 3) (PV.deref (nthP (PV.toL (List.headD (List.tail (PV.cells (PV.deref (PV.ptr (some 3) (PV.deref (FV.pv (OV.fv (List.headD (Prod.fst r2) (OV.flat FV.gone))))))))) PV.undef)) 0)))], OV.flat FV.gone]))
  (some ([OV.flat (FV.val (PV.bool true))], [OV.cont .box [FV.val (PV.ptr (some 3) (PV.deref (FV.pv (OV.fv (List.headD (Prod.fst r2) (OV.flat FV.gone))))))], OV.flat FV.gone])))

theorem f16_btree_Tree_Delete_eq (rec : Rec) (n : Nat) (a0 : PV) (a1 : List PV) : callBody C rec n 16 [OV.cont .box [FV.val (PV.ptr (some 3) a0)], OV.flat (FV.val (PV.sl none a1))] = f16_btree_Tree_Delete rec n a0 a1 := by kernel_rfl

noncomputable def f17_btree_New (rec : Rec) (n : Nat)  : Option (List OV × List OV) :=
  callB (rec 31 [OV.flat (FV.val (PV.sl (some 2) []))]) fun r1 => needB (okOs Go.Proofs.Try.prog [55] [] (Prod.fst r1)) <|
  some ([OV.cont .box [FV.val (PV.ptr (some 3) (PV.deref (FV.pv (OV.fv (List.headD (Prod.fst r1) (OV.flat FV.gone))))))]], [])

theorem f17_btree_New_eq (rec : Rec) (n : Nat)  : callBody C rec n 17 [] = f17_btree_New rec n  := by kernel_rfl

noncomputable def f18_btree_Tree_Clone (rec : Rec) (n : Nat) (a0 : PV) : Option (List OV × List OV) :=
  some ([OV.cont .box [FV.val (PV.ptr (some 3) a0)]], [OV.cont .box [FV.val (PV.ptr (some 3) a0)]])

theorem f18_btree_Tree_Clone_eq (rec : Rec) (n : Nat) (a0 : PV) : callBody C rec n 18 [OV.cont .box [FV.val (PV.ptr (some 3) a0)]] = f18_btree_Tree_Clone rec n a0 := by kernel_rfl

noncomputable def f22_btree_Tree_Depth.l0.step (rec : Rec) (n : Nat) (self_l0 : PV → Int → PV → Option (List OV × List OV)) (x0 : PV) (x1 : Int) (x2 : PV) : Option (List OV × List OV) :=
  needB (isPtrS (PV.ptr (some 3) x2) && hasT Go.Proofs.Try.prog 63 (PV.deref (PV.ptr (some 3) x2))) <|
  ifB (decide (((List.length (PV.toL (List.headD (List.tail (PV.cells (PV.deref (PV.ptr (some 3) x2)))) PV.undef)) : Nat) : Int) > (0 : Int)))
  (needB (isPtrS (PV.ptr (some 3) x2) && hasT Go.Proofs.Try.prog 63 (PV.deref (PV.ptr (some 3) x2))) <|
  needB (decide ((0 : Int) < ((List.length (PV.toL (List.headD (List.tail (PV.cells (PV.deref (PV.ptr (some 3) x2)))) PV.undef)) : Nat) : Int))) <|
  needB (hasT Go.Proofs.Try.prog 55 (nthP (PV.toL (List.headD (List.tail (PV.cells (PV.deref (PV.ptr (some 3) x2)))) PV.undef)) 0)) <|
  self_l0 x0 (IntKind.wrap .i64 (x1 + (1 : Int))) (PV.deref (nthP (PV.toL (List.headD (List.tail (PV.cells (PV.deref (PV.ptr (some 3) x2)))) PV.undef)) 0)))
  (some ([OV.flat (FV.val (PV.int .i64 x1))], [OV.cont .box [FV.val (PV.ptr (some 3) x0)]]))

noncomputable def f22_btree_Tree_Depth.l0 (rec : Rec) (n : Nat) : Nat → PV → Int → PV → Option (List OV × List OV)
  | 0, _, _, _ => none
  | m + 1, x0, x1, x2 => f22_btree_Tree_Depth.l0.step rec n (f22_btree_Tree_Depth.l0 rec n m) x0 x1 x2

theorem f22_btree_Tree_Depth.l0_eq (rec : Rec) (n : Nat) : ∀ (m : Nat) (x0 : PV) (x1 : Int) (x2 : PV), loopAt C rec n 22 [1, 1, 0, 1, 0] [] m [(0, SV.home (OV.cont .box [FV.val (PV.ptr (some 3) x0)])), (3, SV.home (OV.flat (FV.val (PV.int .i64 x1)))), (4, SV.home (OV.flat (FV.val (PV.ptr (some 3) x2))))] = f22_btree_Tree_Depth.l0 rec n m x0 x1 x2
  | 0, x0, x1, x2 => by kernel_rfl
  | m + 1, x0, x1, x2 => by
    have ih : (fun x0 x1 x2 => loopAt C rec n 22 [1, 1, 0, 1, 0] [] m [(0, SV.home (OV.cont .box [FV.val (PV.ptr (some 3) x0)])), (3, SV.home (OV.flat (FV.val (PV.int .i64 x1)))), (4, SV.home (OV.flat (FV.val (PV.ptr (some 3) x2))))]) = f22_btree_Tree_Depth.l0 rec n m := funext fun x0 => funext fun x1 => funext fun x2 => f22_btree_Tree_Depth.l0_eq rec n m x0 x1 x2
    exact (show loopAt C rec n 22 [1, 1, 0, 1, 0] [] (m + 1) [(0, SV.home (OV.cont .box [FV.val (PV.ptr (some 3) x0)])), (3, SV.home (OV.flat (FV.val (PV.int .i64 x1)))), (4, SV.home (OV.flat (FV.val (PV.ptr (some 3) x2))))] = f22_btree_Tree_Depth.l0.step rec n (fun x0 x1 x2 => loopAt C rec n 22 [1, 1, 0, 1, 0] [] m [(0, SV.home (OV.cont .box [FV.val (PV.ptr (some 3) x0)])), (3, SV.home (OV.flat (FV.val (PV.int .i64 x1)))), (4, SV.home (OV.flat (FV.val (PV.ptr (some 3) x2))))]) x0 x1 x2 from by kernel_rfl).trans (by rw [ih]; rfl)

noncomputable def f22_btree_Tree_Depth.pre (rec : Rec) (n : Nat) (l0 : PV → Int → PV → Option (List OV × List OV)) (a0 : PV) : Option (List OV × List OV) :=
  l0 a0 (1 : Int) a0

noncomputable def f22_btree_Tree_Depth (rec : Rec) (n : Nat) (a0 : PV) : Option (List OV × List OV) := f22_btree_Tree_Depth.pre rec n (f22_btree_Tree_Depth.l0 rec n n) a0

theorem f22_btree_Tree_Depth_eq (rec : Rec) (n : Nat) (a0 : PV) : callBody C rec n 22 [OV.cont .box [FV.val (PV.ptr (some 3) a0)]] = f22_btree_Tree_Depth rec n a0 := by
  have i0 : (fun x0 x1 x2 => loopAt C rec n 22 [1, 1, 0, 1, 0] [] n [(0, SV.home (OV.cont .box [FV.val (PV.ptr (some 3) x0)])), (3, SV.home (OV.flat (FV.val (PV.int .i64 x1)))), (4, SV.home (OV.flat (FV.val (PV.ptr (some 3) x2))))]) = f22_btree_Tree_Depth.l0 rec n n := funext fun x0 => funext fun x1 => funext fun x2 => f22_btree_Tree_Depth.l0_eq rec n n x0 x1 x2
  exact (show callBody C rec n 22 [OV.cont .box [FV.val (PV.ptr (some 3) a0)]] = f22_btree_Tree_Depth.pre rec n (fun x0 x1 x2 => loopAt C rec n 22 [1, 1, 0, 1, 0] [] n [(0, SV.home (OV.cont .box [FV.val (PV.ptr (some 3) x0)])), (3, SV.home (OV.flat (FV.val (PV.int .i64 x1)))), (4, SV.home (OV.flat (FV.val (PV.ptr (some 3) x2))))]) a0 from by kernel_rfl).trans (by rw [i0]; rfl)

noncomputable def f24_btree_page_place (rec : Rec) (n : Nat) (a0 : PV) (a1 : List PV) : Option (List OV × List OV) :=
  needB (isPtrS (PV.ptr (some 3) a0) && hasT Go.Proofs.Try.prog 63 (PV.deref (PV.ptr (some 3) a0))) <|
  callB (rec 40 [OV.flat (FV.val (PV.sl (some 2) (PV.toL (List.headD (PV.cells (PV.deref (PV.ptr (some 3) a0))) PV.undef)))), OV.flat (FV.val (PV.sl none a1)), OV.flat (FV.val (PV.fn (Fn.func 41) [] []))]) fun r1 => needB (okOs Go.Proofs.Try.prog [3, 4] [] (Prod.fst r1)) <|
  some ([OV.flat (FV.val (PV.int .i64 (PV.toI (FV.pv (OV.fv (List.headD (Prod.fst r1) (OV.flat FV.gone))))))), OV.flat (FV.val (PV.bool (PV.toB (FV.pv (OV.fv (List.headD (List.tail (Prod.fst r1)) (OV.flat FV.gone)))))))], [])

theorem f24_btree_page_place_eq (rec : Rec) (n : Nat) (a0 : PV) (a1 : List PV) : callBody C rec n 24 [OV.flat (FV.val (PV.ptr (some 3) a0)), OV.flat (FV.val (PV.sl none a1))] = f24_btree_page_place rec n a0 a1 := by kernel_rfl

noncomputable def f26_btree_Tree_find.l0.step (rec : Rec) (n : Nat) (self_l0 : PV → List PV → PV → Option (List OV × List OV)) (x0 : PV) (x1 : List PV) (x2 : PV) : Option (List OV × List OV) :=
  needB (isPtrS (PV.ptr (some 3) x2) && hasT Go.Proofs.Try.prog 63 (PV.deref (PV.ptr (some 3) x2))) <|
  ifB (((List.length (PV.toL (List.headD (List.tail (PV.cells (PV.deref (PV.ptr (some 3) x2)))) PV.undef)) : Nat) : Int) == (0 : Int))
  (callB (rec 24 [OV.flat (FV.val (PV.ptr (some 3) x2)), OV.flat (FV.val (PV.sl none x1))]) fun r1 => needB (okOs Go.Proofs.Try.prog [3, 4] [] (Prod.fst r1)) <|
  ifB (PV.toB (FV.pv (OV.fv (List.headD (List.tail (Prod.fst r1)) (OV.flat FV.gone)))))
  (needB (isPtrS (PV.ptr (some 3) x2) && hasT Go.Proofs.Try.prog 63 (PV.deref (PV.ptr (some 3) x2))) <|
  needB (decide ((0 : Int) ≤ PV.toI (FV.pv (OV.fv (List.headD (Prod.fst r1) (OV.flat FV.gone)))))) <|
  needB (decide (PV.toI (FV.pv (OV.fv (List.headD (Prod.fst r1) (OV.flat FV.gone)))) < ((List.length (PV.toL (List.headD (PV.cells (PV.deref (PV.ptr (some 3) x2))) PV.undef)) : Nat) : Int))) <|
  needB (hasT Go.Proofs.Try.prog 33 (nthP (PV.toL (List.headD (PV.cells (PV.deref (PV.ptr (some 3) x2))) PV.undef)) (Int.toNat (PV.toI (FV.pv (OV.fv (List.headD (Prod.fst r1) (OV.flat FV.gone)))))))) <|
  some ([OV.flat (FV.val (PV.agg [PV.sl none (PV.toL (List.headD (PV.cells (nthP (PV.toL (List.headD (PV.cells (PV.deref (PV.ptr (some 3) x2))) PV.undef)) (Int.toNat (PV.toI (FV.pv (OV.fv (List.headD (Prod.fst r1) (OV.flat FV.gone)))))))) PV.undef)), PV.sl none (PV.toL (List.headD (List.tail (PV.cells (nthP (PV.toL (List.headD (PV.cells (PV.deref (PV.ptr (some 3) x2))) PV.undef)) (Int.toNat (PV.toI (FV.pv (OV.fv (List.headD (Prod.fst r1) (OV.flat FV.gone))))))))) PV.undef))])), OV.flat (FV.val (PV.bool (PV.toB (FV.pv (OV.fv (List.headD (List.tail (Prod.fst r1)) (OV.flat FV.gone)))))))], [OV.cont .box [FV.val (PV.ptr (some 3) x0)], OV.flat FV.gone]))
  (some ([OV.flat (FV.val (PV.agg [PV.sl none [], PV.sl none []])), OV.flat (FV.val (PV.bool (PV.toB (FV.pv (OV.fv (List.headD (List.tail (Prod.fst r1)) (OV.flat FV.gone)))))))], [OV.cont .box [FV.val (PV.ptr (some 3) x0)], OV.flat FV.gone])))
  (needB (isPtrS (PV.ptr (some 3) x2) && hasT Go.Proofs.Try.prog 63 (PV.deref (PV.ptr (some 3) x2))) <|
  callB (rec 43 [OV.flat (FV.val (PV.ptr (some 3) x2)), OV.flat (FV.val (PV.sl none x1))]) fun r2 => needB (okOs Go.Proofs.Try.prog [3] [] (Prod.fst r2)) <|
  needB (decide ((0 : Int) ≤ PV.toI (FV.pv (OV.fv (List.headD (Prod.fst r2) (OV.flat FV.gone)))))) <|
  needB (decide (PV.toI (FV.pv (OV.fv (List.headD (Prod.fst r2) (OV.flat FV.gone)))) < ((List.length (PV.toL (List.headD (List.tail (PV.cells (PV.deref (PV.ptr (some 3) x2)))) PV.undef)) : Nat) : Int))) <|
  needB (hasT Go.Proofs.Try.prog 55 (nthP (PV.toL (List.headD (List.tail (PV.cells (PV.deref (PV.ptr (some 3) x2)))) PV.undef)) (Int.toNat (PV.toI (FV.pv (OV.fv (List.headD (Prod.fst r2) (OV.flat FV.gone)))))))) <|
  self_l0 x0 x1 (PV.deref (nthP (PV.toL (List.headD (List.tail (PV.cells (PV.deref (PV.ptr (some 3) x2)))) PV.undef)) (Int.toNat (PV.toI (FV.pv (OV.fv (List.headD (Prod.fst r2) (OV.flat FV.gone)))))))))

noncomputable def f26_btree_Tree_find.l0 (rec : Rec) (n : Nat) : Nat → PV → List PV → PV → Option (List OV × List OV)
  | 0, _, _, _ => none
  | m + 1, x0, x1, x2 => f26_btree_Tree_find.l0.step rec n (f26_btree_Tree_find.l0 rec n m) x0 x1 x2

theorem f26_btree_Tree_find.l0_eq (rec : Rec) (n : Nat) : ∀ (m : Nat) (x0 : PV) (x1 : List PV) (x2 : PV), loopAt C rec n 26 [1, 0, 1, 1, 0, 0] [] m [(0, SV.home (OV.cont .box [FV.val (PV.ptr (some 3) x0)])), (1, SV.home (OV.flat (FV.val (PV.sl none x1)))), (4, SV.home (OV.cont .box [FV.nil none, FV.nil none])), (6, SV.home (OV.flat (FV.val (PV.ptr (some 3) x2))))] = f26_btree_Tree_find.l0 rec n m x0 x1 x2
  | 0, x0, x1, x2 => by kernel_rfl
  | m + 1, x0, x1, x2 => by
    have ih : (fun x0 x1 x2 => loopAt C rec n 26 [1, 0, 1, 1, 0, 0] [] m [(0, SV.home (OV.cont .box [FV.val (PV.ptr (some 3) x0)])), (1, SV.home (OV.flat (FV.val (PV.sl none x1)))), (4, SV.home (OV.cont .box [FV.nil none, FV.nil none])), (6, SV.home (OV.flat (FV.val (PV.ptr (some 3) x2))))]) = f26_btree_Tree_find.l0 rec n m := funext fun x0 => funext fun x1 => funext fun x2 => f26_btree_Tree_find.l0_eq rec n m x0 x1 x2
    exact (show loopAt C rec n 26 [1, 0, 1, 1, 0, 0] [] (m + 1) [(0, SV.home (OV.cont .box [FV.val (PV.ptr (some 3) x0)])), (1, SV.home (OV.flat (FV.val (PV.sl none x1)))), (4, SV.home (OV.cont .box [FV.nil none, FV.nil none])), (6, SV.home (OV.flat (FV.val (PV.ptr (some 3) x2))))] = f26_btree_Tree_find.l0.step rec n (fun x0 x1 x2 => loopAt C rec n 26 [1, 0, 1, 1, 0, 0] [] m [(0, SV.home (OV.cont .box [FV.val (PV.ptr (some 3) x0)])), (1, SV.home (OV.flat (FV.val (PV.sl none x1)))), (4, SV.home (OV.cont .box [FV.nil none, FV.nil none])), (6, SV.home (OV.flat (FV.val (PV.ptr (some 3) x2))))]) x0 x1 x2 from by kernel_rfl).trans (by rw [ih]; rfl)

noncomputable def f26_btree_Tree_find.pre (rec : Rec) (n : Nat) (l0 : PV → List PV → PV → Option (List OV × List OV)) (a0 : PV) (a1 : List PV) : Option (List OV × List OV) :=
  l0 a0 a1 a0

noncomputable def f26_btree_Tree_find (rec : Rec) (n : Nat) (a0 : PV) (a1 : List PV) : Option (List OV × List OV) := f26_btree_Tree_find.pre rec n (f26_btree_Tree_find.l0 rec n n) a0 a1

theorem f26_btree_Tree_find_eq (rec : Rec) (n : Nat) (a0 : PV) (a1 : List PV) : callBody C rec n 26 [OV.cont .box [FV.val (PV.ptr (some 3) a0)], OV.flat (FV.val (PV.sl none a1))] = f26_btree_Tree_find rec n a0 a1 := by
  have i0 : (fun x0 x1 x2 => loopAt C rec n 26 [1, 0, 1, 1, 0, 0] [] n [(0, SV.home (OV.cont .box [FV.val (PV.ptr (some 3) x0)])), (1, SV.home (OV.flat (FV.val (PV.sl none x1)))), (4, SV.home (OV.cont .box [FV.nil none, FV.nil none])), (6, SV.home (OV.flat (FV.val (PV.ptr (some 3) x2))))]) = f26_btree_Tree_find.l0 rec n n := funext fun x0 => funext fun x1 => funext fun x2 => f26_btree_Tree_find.l0_eq rec n n x0 x1 x2
  exact (show callBody C rec n 26 [OV.cont .box [FV.val (PV.ptr (some 3) a0)], OV.flat (FV.val (PV.sl none a1))] = f26_btree_Tree_find.pre rec n (fun x0 x1 x2 => loopAt C rec n 26 [1, 0, 1, 1, 0, 0] [] n [(0, SV.home (OV.cont .box [FV.val (PV.ptr (some 3) x0)])), (1, SV.home (OV.flat (FV.val (PV.sl none x1)))), (4, SV.home (OV.cont .box [FV.nil none, FV.nil none])), (6, SV.home (OV.flat (FV.val (PV.ptr (some 3) x2))))]) a0 a1 from by kernel_rfl).trans (by rw [i0]; rfl)

noncomputable def f28_btree_page_put (rec : Rec) (n : Nat) (a0 : PV) (a1 : List PV) (a2 : List PV) : Option (List OV × List OV) :=
  needB (isPtrS (PV.ptr (some 3) a0) && hasT Go.Proofs.Try.prog 63 (PV.deref (PV.ptr (some 3) a0))) <|
  ifB (((List.length (PV.toL (List.headD (List.tail (PV.cells (PV.deref (PV.ptr (some 3) a0)))) PV.undef)) : Nat) : Int) == (0 : Int))
  (callB (rec 24 [OV.flat (FV.val (PV.ptr (some 3) a0)), OV.flat (FV.val (PV.sl none a1))]) fun r1 => needB (okOs Go.Proofs.Try.prog [3, 4] [] (Prod.fst r1)) <|
  needB (isPtrS (PV.ptr (some 3) a0) && hasT Go.Proofs.Try.prog 63 (PV.deref (PV.ptr (some 3) a0))) <|
  callB (rec 44 [OV.flat (FV.val (PV.sl (some 2) (PV.toL (List.headD (PV.cells (PV.deref (PV.ptr (some 3) a0))) PV.undef))))]) fun r2 => needB (okOs Go.Proofs.Try.prog [27] [.o] (Prod.fst r2)) <|
  ifB (PV.toB (FV.pv (OV.fv (List.headD (List.tail (Prod.fst r1)) (OV.flat FV.gone)))))
  (needB (decide ((0 : Int) ≤ PV.toI (FV.pv (OV.fv (List.headD (Prod.fst r1) (OV.flat FV.gone)))))) <|
  needB (decide (PV.toI (FV.pv (OV.fv (List.headD (Prod.fst r1) (OV.flat FV.gone)))) < ((List.length (FV.xs (OV.fv (List.headD (Prod.fst r2) (OV.flat FV.gone)))) : Nat) : Int))) <|
  needB (Nat.blt (Int.toNat (PV.toI (FV.pv (OV.fv (List.headD (Prod.fst r1) (OV.flat FV.gone)))))) (List.length (FV.xs (OV.fv (List.headD (Prod.fst r2) (OV.flat FV.gone)))))) <|
  callB (rec 46 [OV.flat (FV.val (PV.sl (some 2) (List.set (FV.xs (OV.fv (List.headD (Prod.fst r2) (OV.flat FV.gone)))) (Int.toNat (PV.toI (FV.pv (OV.fv (List.headD (Prod.fst r1) (OV.flat FV.gone)))))) (PV.agg [PV.sl none a1, PV.sl none a2]))))]) fun r3 => needB (okOs Go.Proofs.Try.prog [61] [.o] (Prod.fst r3)) <|
  some ([OV.flat (FV.own none (FV.xs (OV.fv (List.headD (Prod.fst r3) (OV.flat FV.gone)))) [])], []))
  (callB (rec 45 [OV.flat (FV.own (some 2) (FV.xs (OV.fv (List.headD (Prod.fst r2) (OV.flat FV.gone)))) []), OV.flat (FV.val (PV.int .i64 (PV.toI (FV.pv (OV.fv (List.headD (Prod.fst r1) (OV.flat FV.gone))))))), OV.flat (FV.own (some 2) [PV.agg [PV.sl none a1, PV.sl none a2]] [])]) fun r4 => needB (okOs Go.Proofs.Try.prog [27] [.o] (Prod.fst r4)) <|
  callB (rec 46 [OV.flat (FV.val (PV.sl (some 2) (FV.xs (OV.fv (List.headD (Prod.fst r4) (OV.flat FV.gone))))))]) fun r5 => needB (okOs Go.Proofs.Try.prog [61] [.o] (Prod.fst r5)) <|
  some ([OV.flat (FV.own none (FV.xs (OV.fv (List.headD (Prod.fst r5) (OV.flat FV.gone)))) [])], [])))
  (callB (rec 43 [OV.flat (FV.val (PV.ptr (some 3) a0)), OV.flat (FV.val (PV.sl none a1))]) fun r6 => needB (okOs Go.Proofs.Try.prog [3] [] (Prod.fst r6)) <|
  needB (isPtrS (PV.ptr (some 3) a0) && hasT Go.Proofs.Try.prog 63 (PV.deref (PV.ptr (some 3) a0))) <|
  callB (rec 49 [OV.flat (FV.val (PV.sl none (PV.toL (List.headD (List.tail (PV.cells (PV.deref (PV.ptr (some 3) a0)))) PV.undef))))]) fun r7 => needB (okOs Go.Proofs.Try.prog [61] [.o] (Prod.fst r7)) <|
  needB (isPtrS (PV.ptr (some 3) a0) && hasT Go.Proofs.Try.prog 63 (PV.deref (PV.ptr (some 3) a0))) <|
  needB (decide ((0 : Int) ≤ PV.toI (FV.pv (OV.fv (List.headD (Prod.fst r6) (OV.flat FV.gone)))))) <|
  needB (decide (PV.toI (FV.pv (OV.fv (List.headD (Prod.fst r6) (OV.flat FV.gone)))) < ((List.length (PV.toL (List.headD (List.tail (PV.cells (PV.deref (PV.ptr (some 3) a0)))) PV.undef)) : Nat) : Int))) <|
  needB (hasT Go.Proofs.Try.prog 55 (nthP (PV.toL (List.headD (List.tail (PV.cells (PV.deref (PV.ptr (some 3) a0)))) PV.undef)) (Int.toNat (PV.toI (FV.pv (OV.fv (List.headD (Prod.fst r6) (OV.flat FV.gone)))))))) <|
  callB (rec 28 [OV.flat (FV.val (PV.ptr (some 3) (PV.deref (nthP (PV.toL (List.headD (List.tail (PV.cells (PV.deref (PV.ptr (some 3) a0)))) PV.undef)) (Int.toNat (PV.toI (FV.pv (OV.fv (List.headD (Prod.fst r6) (OV.flat FV.gone)))))))))), OV.flat (FV.val (PV.agg [PV.sl none a1, PV.sl none a2]))]) fun r8 => needB (okOs Go.Proofs.Try.prog [61] [.o] (Prod.fst r8)) <|
  callB (rec 48 [OV.flat (FV.own none (FV.xs (OV.fv (List.headD (Prod.fst r7) (OV.flat FV.gone)))) []), OV.flat (FV.val (PV.int .i64 (PV.toI (FV.pv (OV.fv (List.headD (Prod.fst r6) (OV.flat FV.gone))))))), OV.flat (FV.val (PV.int .i64 (IntKind.wrap .i64 (PV.toI (FV.pv (OV.fv (List.headD (Prod.fst r6) (OV.flat FV.gone)))) + (1 : Int))))), OV.flat (FV.own none (FV.xs (OV.fv (List.headD (Prod.fst r8) (OV.flat FV.gone)))) [])]) fun r9 => needB (okOs Go.Proofs.Try.prog [61] [.o] (Prod.fst r9)) <|
  callB (rec 47 [OV.flat (FV.val (PV.sl none (FV.xs (OV.fv (List.headD (Prod.fst r9) (OV.flat FV.gone))))))]) fun r10 => needB (okOs Go.Proofs.Try.prog [61] [.o] (Prod.fst r10)) <|
  some ([OV.flat (FV.own none (FV.xs (OV.fv (List.headD (Prod.fst r10) (OV.flat FV.gone)))) [])], []))

theorem f28_btree_page_put_eq (rec : Rec) (n : Nat) (a0 : PV) (a1 : List PV) (a2 : List PV) : callBody C rec n 28 [OV.flat (FV.val (PV.ptr (some 3) a0)), OV.flat (FV.val (PV.agg [PV.sl none a1, PV.sl none a2]))] = f28_btree_page_put rec n a0 a1 a2 := by kernel_rfl

noncomputable def f29_btree_over.l0.step (rec : Rec) (n : Nat) (self_l0 : List PV → List PV → Int → List PV → Int → Int → Option (List OV × List OV)) (x0 : List PV) (x1 : List PV) (x2 : Int) (x3 : List PV) (x4 : Int) (x5 : Int) : Option (List OV × List OV) :=
  ifB (decide (x5 < x4))
  (needB (decide ((0 : Int) ≤ x5)) <|
  needB (decide (x5 < ((List.length x3 : Nat) : Int))) <|
  needB (hasT Go.Proofs.Try.prog 55 (nthP x3 (Int.toNat x5))) <|
  needB (isPtrS (PV.ptr (some 3) (PV.deref (nthP x3 (Int.toNat x5)))) && hasT Go.Proofs.Try.prog 63 (PV.deref (PV.ptr (some 3) (PV.deref (nthP x3 (Int.toNat x5)))))) <|
  self_l0 x0 x1 (IntKind.wrap .i64 (x2 + PV.toI (List.headD (List.tail (List.tail (PV.cells (PV.deref (PV.ptr (some 3) (PV.deref (nthP x3 (Int.toNat x5)))))))) PV.undef))) x3 x4 (IntKind.wrap .i64 (x5 + (1 : Int))))
  (some ([OV.cont .box [FV.val (PV.sl (some 2) x0), FV.val (PV.sl none x1), FV.val (PV.int .i64 x2)]], []))

noncomputable def f29_btree_over.l0 (rec : Rec) (n : Nat) : Nat → List PV → List PV → Int → List PV → Int → Int → Option (List OV × List OV)
  | 0, _, _, _, _, _, _ => none
  | m + 1, x0, x1, x2, x3, x4, x5 => f29_btree_over.l0.step rec n (f29_btree_over.l0 rec n m) x0 x1 x2 x3 x4 x5

theorem f29_btree_over.l0_eq (rec : Rec) (n : Nat) : ∀ (m : Nat) (x0 : List PV) (x1 : List PV) (x2 : Int) (x3 : List PV) (x4 : Int) (x5 : Int), loopAt C rec n 29 [1, 1, 0, 1, 0] [] m [(3, SV.home (OV.cont .box [FV.val (PV.sl (some 2) x0), FV.val (PV.sl none x1), FV.val (PV.int .i64 x2)])), (9, SV.home (OV.flat (FV.val (PV.sl none x3)))), (10, SV.home (OV.flat (FV.val (PV.int .i64 x4)))), (11, SV.home (OV.flat (FV.val (PV.int .i64 x5))))] = f29_btree_over.l0 rec n m x0 x1 x2 x3 x4 x5
  | 0, x0, x1, x2, x3, x4, x5 => by kernel_rfl
  | m + 1, x0, x1, x2, x3, x4, x5 => by
    have ih : (fun x0 x1 x2 x3 x4 x5 => loopAt C rec n 29 [1, 1, 0, 1, 0] [] m [(3, SV.home (OV.cont .box [FV.val (PV.sl (some 2) x0), FV.val (PV.sl none x1), FV.val (PV.int .i64 x2)])), (9, SV.home (OV.flat (FV.val (PV.sl none x3)))), (10, SV.home (OV.flat (FV.val (PV.int .i64 x4)))), (11, SV.home (OV.flat (FV.val (PV.int .i64 x5))))]) = f29_btree_over.l0 rec n m := funext fun x0 => funext fun x1 => funext fun x2 => funext fun x3 => funext fun x4 => funext fun x5 => f29_btree_over.l0_eq rec n m x0 x1 x2 x3 x4 x5
    exact (show loopAt C rec n 29 [1, 1, 0, 1, 0] [] (m + 1) [(3, SV.home (OV.cont .box [FV.val (PV.sl (some 2) x0), FV.val (PV.sl none x1), FV.val (PV.int .i64 x2)])), (9, SV.home (OV.flat (FV.val (PV.sl none x3)))), (10, SV.home (OV.flat (FV.val (PV.int .i64 x4)))), (11, SV.home (OV.flat (FV.val (PV.int .i64 x5))))] = f29_btree_over.l0.step rec n (fun x0 x1 x2 x3 x4 x5 => loopAt C rec n 29 [1, 1, 0, 1, 0] [] m [(3, SV.home (OV.cont .box [FV.val (PV.sl (some 2) x0), FV.val (PV.sl none x1), FV.val (PV.int .i64 x2)])), (9, SV.home (OV.flat (FV.val (PV.sl none x3)))), (10, SV.home (OV.flat (FV.val (PV.int .i64 x4)))), (11, SV.home (OV.flat (FV.val (PV.int .i64 x5))))]) x0 x1 x2 x3 x4 x5 from by kernel_rfl).trans (by rw [ih]; rfl)

noncomputable def f29_btree_over.pre (rec : Rec) (n : Nat) (l0 : List PV → List PV → Int → List PV → Int → Int → Option (List OV × List OV)) (a0 : List PV) : Option (List OV × List OV) :=
  l0 [] a0 (0 : Int) a0 ((List.length a0 : Nat) : Int) (0 : Int)

noncomputable def f29_btree_over (rec : Rec) (n : Nat) (a0 : List PV) : Option (List OV × List OV) := f29_btree_over.pre rec n (f29_btree_over.l0 rec n n) a0

theorem f29_btree_over_eq (rec : Rec) (n : Nat) (a0 : List PV) : callBody C rec n 29 [OV.flat (FV.val (PV.sl none a0))] = f29_btree_over rec n a0 := by
  have i0 : (fun x0 x1 x2 x3 x4 x5 => loopAt C rec n 29 [1, 1, 0, 1, 0] [] n [(3, SV.home (OV.cont .box [FV.val (PV.sl (some 2) x0), FV.val (PV.sl none x1), FV.val (PV.int .i64 x2)])), (9, SV.home (OV.flat (FV.val (PV.sl none x3)))), (10, SV.home (OV.flat (FV.val (PV.int .i64 x4)))), (11, SV.home (OV.flat (FV.val (PV.int .i64 x5))))]) = f29_btree_over.l0 rec n n := funext fun x0 => funext fun x1 => funext fun x2 => funext fun x3 => funext fun x4 => funext fun x5 => f29_btree_over.l0_eq rec n n x0 x1 x2 x3 x4 x5
  exact (show callBody C rec n 29 [OV.flat (FV.val (PV.sl none a0))] = f29_btree_over.pre rec n (fun x0 x1 x2 x3 x4 x5 => loopAt C rec n 29 [1, 1, 0, 1, 0] [] n [(3, SV.home (OV.cont .box [FV.val (PV.sl (some 2) x0), FV.val (PV.sl none x1), FV.val (PV.int .i64 x2)])), (9, SV.home (OV.flat (FV.val (PV.sl none x3)))), (10, SV.home (OV.flat (FV.val (PV.int .i64 x4)))), (11, SV.home (OV.flat (FV.val (PV.int .i64 x5))))]) a0 from by kernel_rfl).trans (by rw [i0]; rfl)

noncomputable def f30_btree_page_without (rec : Rec) (n : Nat) (a0 : PV) (a1 : List PV) : Option (List OV × List OV) :=
  needB (isPtrS (PV.ptr (some 3) a0) && hasT Go.Proofs.Try.prog 63 (PV.deref (PV.ptr (some 3) a0))) <|
  ifB (((List.length (PV.toL (List.headD (List.tail (PV.cells (PV.deref (PV.ptr (some 3) a0)))) PV.undef)) : Nat) : Int) == (0 : Int))
  (callB (rec 24 [OV.flat (FV.val (PV.ptr (some 3) a0)), OV.flat (FV.val (PV.sl none a1))]) fun r1 => needB (okOs Go.Proofs.Try.prog [3, 4] [] (Prod.fst r1)) <|
  needB (isPtrS (PV.ptr (some 3) a0) && hasT Go.Proofs.Try.prog 63 (PV.deref (PV.ptr (some 3) a0))) <|
  callB (rec 44 [OV.flat (FV.val (PV.sl (some 2) (PV.toL (List.headD (PV.cells (PV.deref (PV.ptr (some 3) a0))) PV.undef))))]) fun r2 => needB (okOs Go.Proofs.Try.prog [27] [.o] (Prod.fst r2)) <|
  callB (rec 50 [OV.flat (FV.own (some 2) (FV.xs (OV.fv (List.headD (Prod.fst r2) (OV.flat FV.gone)))) []), OV.flat (FV.val (PV.int .i64 (PV.toI (FV.pv (OV.fv (List.headD (Prod.fst r1) (OV.flat FV.gone))))))), OV.flat (FV.val (PV.int .i64 (IntKind.wrap .i64 (PV.toI (FV.pv (OV.fv (List.headD (Prod.fst r1) (OV.flat FV.gone)))) + (1 : Int)))))]) fun r3 => needB (okOs Go.Proofs.Try.prog [27] [.o] (Prod.fst r3)) <|
  callB (rec 31 [OV.flat (FV.val (PV.sl (some 2) (FV.xs (OV.fv (List.headD (Prod.fst r3) (OV.flat FV.gone))))))]) fun r4 => needB (okOs Go.Proofs.Try.prog [55] [] (Prod.fst r4)) <|
  some ([OV.flat (FV.val (PV.ptr (some 3) (PV.deref (FV.pv (OV.fv (List.headD (Prod.fst r4) (OV.flat FV.gone)))))))], []))
  (callB (rec 43 [OV.flat (FV.val (PV.ptr (some 3) a0)), OV.flat (FV.val (PV.sl none a1))]) fun r5 => needB (okOs Go.Proofs.Try.prog [3] [] (Prod.fst r5)) <|
  needB (isPtrS (PV.ptr (some 3) a0) && hasT Go.Proofs.Try.prog 63 (PV.deref (PV.ptr (some 3) a0))) <|
  callB (rec 49 [OV.flat (FV.val (PV.sl none (PV.toL (List.headD (List.tail (PV.cells (PV.deref (PV.ptr (some 3) a0)))) PV.undef))))]) fun r6 => needB (okOs Go.Proofs.Try.prog [61] [.o] (Prod.fst r6)) <|
  needB (decide ((0 : Int) ≤ PV.toI (FV.pv (OV.fv (List.headD (Prod.fst r5) (OV.flat FV.gone)))))) <|
  needB (decide (PV.toI (FV.pv (OV.fv (List.headD (Prod.fst r5) (OV.flat FV.gone)))) < ((List.length (FV.xs (OV.fv (List.headD (Prod.fst r6) (OV.flat FV.gone)))) : Nat) : Int))) <|
  needB (Nat.blt (Int.toNat (PV.toI (FV.pv (OV.fv (List.headD (Prod.fst r5) (OV.flat FV.gone)))))) (List.length (FV.xs (OV.fv (List.headD (Prod.fst r6) (OV.flat FV.gone)))))) <|
  needB (hasT Go.Proofs.Try.prog 55 (nthP (FV.xs (OV.fv (List.headD (Prod.fst r6) (OV.flat FV.gone)))) (Int.toNat (PV.toI (FV.pv (OV.fv (List.headD (Prod.fst r5) (OV.flat FV.gone)))))))) <|
  callB (rec 30 [OV.flat (FV.val (PV.ptr (some 3) (PV.deref (nthP (FV.xs (OV.fv (List.headD (Prod.fst r6) (OV.flat FV.gone)))) (Int.toNat (PV.toI (FV.pv (OV.fv (List.headD (Prod.fst r5) (OV.flat FV.gone)))))))))), OV.flat (FV.val (PV.sl none a1))]) fun r7 => needB (okOs Go.Proofs.Try.prog [55] [] (Prod.fst r7)) <|
  needB (decide ((0 : Int) ≤ PV.toI (FV.pv (OV.fv (List.headD (Prod.fst r5) (OV.flat FV.gone)))))) <|
  needB (decide (PV.toI (FV.pv (OV.fv (List.headD (Prod.fst r5) (OV.flat FV.gone)))) < ((List.length (FV.xs (OV.fv (List.headD (Prod.fst r6) (OV.flat FV.gone)))) : Nat) : Int))) <|
  needB (Nat.blt (Int.toNat (PV.toI (FV.pv (OV.fv (List.headD (Prod.fst r5) (OV.flat FV.gone)))))) (List.length (FV.xs (OV.fv (List.headD (Prod.fst r6) (OV.flat FV.gone)))))) <|
  needB (decide ((0 : Int) ≤ PV.toI (FV.pv (OV.fv (List.headD (Prod.fst r5) (OV.flat FV.gone)))))) <|
  needB (decide (PV.toI (FV.pv (OV.fv (List.headD (Prod.fst r5) (OV.flat FV.gone)))) < ((List.length (List.set (FV.xs (OV.fv (List.headD (Prod.fst r6) (OV.flat FV.gone)))) (Int.toNat (PV.toI (FV.pv (OV.fv (List.headD (Prod.fst r5) (OV.flat FV.gone)))))) (PV.ptr (some 3) (PV.deref (FV.pv (OV.fv (List.headD (Prod.fst r7) (OV.flat FV.gone))))))) : Nat) : Int))) <|
  needB (Nat.blt (Int.toNat (PV.toI (FV.pv (OV.fv (List.headD (Prod.fst r5) (OV.flat FV.gone)))))) (List.length (List.set (FV.xs (OV.fv (List.headD (Prod.fst r6) (OV.flat FV.gone)))) (Int.toNat (PV.toI (FV.pv (OV.fv (List.headD (Prod.fst r5) (OV.flat FV.gone)))))) (PV.ptr (some 3) (PV.deref (FV.pv (OV.fv (List.headD (Prod.fst r7) (OV.flat FV.gone))))))))) <|
  needB (hasT Go.Proofs.Try.prog 55 (nthP (List.set (FV.xs (OV.fv (List.headD (Prod.fst r6) (OV.flat FV.gone)))) (Int.toNat (PV.toI (FV.pv (OV.fv (List.headD (Prod.fst r5) (OV.flat FV.gone)))))) (PV.ptr (some 3) (PV.deref (FV.pv (OV.fv (List.headD (Prod.fst r7) (OV.flat FV.gone))))))) (Int.toNat (PV.toI (FV.pv (OV.fv (List.headD (Prod.fst r5) (OV.flat FV.gone)))))))) <|
  callB (rec 51 [OV.flat (FV.val (PV.ptr (some 3) (PV.deref (nthP (List.set (FV.xs (OV.fv (List.headD (Prod.fst r6) (OV.flat FV.gone)))) (Int.toNat (PV.toI (FV.pv (OV.fv (List.headD (Prod.fst r5) (OV.flat FV.gone)))))) (PV.ptr (some 3) (PV.deref (FV.pv (OV.fv (List.headD (Prod.fst r7) (OV.flat FV.gone))))))) (Int.toNat (PV.toI (FV.pv (OV.fv (List.headD (Prod.fst r5) (OV.flat FV.gone))))))))))]) fun r8 => needB (okOs Go.Proofs.Try.prog [3] [] (Prod.fst r8)) <|
  ifB (decide (PV.toI (FV.pv (OV.fv (List.headD (Prod.fst r8) (OV.flat FV.gone)))) < (2 : Int)))
  (needB (decide ((0 : Int) ≤ mnI (PV.toI (FV.pv (OV.fv (List.headD (Prod.fst r5) (OV.flat FV.gone))))) (IntKind.wrap .i64 (((List.length (List.set (FV.xs (OV.fv (List.headD (Prod.fst r6) (OV.flat FV.gone)))) (Int.toNat (PV.toI (FV.pv (OV.fv (List.headD (Prod.fst r5) (OV.flat FV.gone)))))) (PV.ptr (some 3) (PV.deref (FV.pv (OV.fv (List.headD (Prod.fst r7) (OV.flat FV.gone))))))) : Nat) : Int) - (2 : Int))))) <|
  needB (decide (mnI (PV.toI (FV.pv (OV.fv (List.headD (Prod.fst r5) (OV.flat FV.gone))))) (IntKind.wrap .i64 (((List.length (List.set (FV.xs (OV.fv (List.headD (Prod.fst r6) (OV.flat FV.gone)))) (Int.toNat (PV.toI (FV.pv (OV.fv (List.headD (Prod.fst r5) (OV.flat FV.gone)))))) (PV.ptr (some 3) (PV.deref (FV.pv (OV.fv (List.headD (Prod.fst r7) (OV.flat FV.gone))))))) : Nat) : Int) - (2 : Int))) < ((List.length (List.set (FV.xs (OV.fv (List.headD (Prod.fst r6) (OV.flat FV.gone)))) (Int.toNat (PV.toI (FV.pv (OV.fv (List.headD (Prod.fst r5) (OV.flat FV.gone)))))) (PV.ptr (some 3) (PV.deref (FV.pv (OV.fv (List.headD (Prod.fst r7) (OV.flat FV.gone))))))) : Nat) : Int))) <|
  needB (Nat.blt (Int.toNat (mnI (PV.toI (FV.pv (OV.fv (List.headD (Prod.fst r5) (OV.flat FV.gone))))) (IntKind.wrap .i64 (((List.length (List.set (FV.xs (OV.fv (List.headD (Prod.fst r6) (OV.flat FV.gone)))) (Int.toNat (PV.toI (FV.pv (OV.fv (List.headD (Prod.fst r5) (OV.flat FV.gone)))))) (PV.ptr (some 3) (PV.deref (FV.pv (OV.fv (List.headD (Prod.fst r7) (OV.flat FV.gone))))))) : Nat) : Int) - (2 : Int))))) (List.length (List.set (FV.xs (OV.fv (List.headD (Prod.fst r6) (OV.flat FV.gone)))) (Int.toNat (PV.toI (FV.pv (OV.fv (List.headD (Prod.fst r5) (OV.flat FV.gone)))))) (PV.ptr (some 3) (PV.deref (FV.pv (OV.fv (List.headD (Prod.fst r7) (OV.flat FV.gone))))))))) <|
  needB (hasT Go.Proofs.Try.prog 55 (nthP (List.set (FV.xs (OV.fv (List.headD (Prod.fst r6) (OV.flat FV.gone)))) (Int.toNat (PV.toI (FV.pv (OV.fv (List.headD (Prod.fst r5) (OV.flat FV.gone)))))) (PV.ptr (some 3) (PV.deref (FV.pv (OV.fv (List.headD (Prod.fst r7) (OV.flat FV.gone))))))) (Int.toNat (mnI (PV.toI (FV.pv (OV.fv (List.headD (Prod.fst r5) (OV.flat FV.gone))))) (IntKind.wrap .i64 (((List.length (List.set (FV.xs (OV.fv (List.headD (Prod.fst r6) (OV.flat FV.gone)))) (Int.toNat (PV.toI (FV.pv (OV.fv (List.headD (Prod.fst r5) (OV.flat FV.gone)))))) (PV.ptr (some 3) (PV.deref (FV.pv (OV.fv (List.headD (Prod.fst r7) (OV.flat FV.gone))))))) : Nat) : Int) - (2 : Int))))))) <|
  needB (decide ((0 : Int) ≤ IntKind.wrap .i64 (mnI (PV.toI (FV.pv (OV.fv (List.headD (Prod.fst r5) (OV.flat FV.gone))))) (IntKind.wrap .i64 (((List.length (List.set (FV.xs (OV.fv (List.headD (Prod.fst r6) (OV.flat FV.gone)))) (Int.toNat (PV.toI (FV.pv (OV.fv (List.headD (Prod.fst r5) (OV.flat FV.gone)))))) (PV.ptr (some 3) (PV.deref (FV.pv (OV.fv (List.headD (Prod.fst r7) (OV.flat FV.gone))))))) : Nat) : Int) - (2 : Int))) + (1 : Int)))) <|
  needB (decide (IntKind.wrap .i64 (mnI (PV.toI (FV.pv (OV.fv (List.headD (Prod.fst r5) (OV.flat FV.gone))))) (IntKind.wrap .i64 (((List.length (List.set (FV.xs (OV.fv (List.headD (Prod.fst r6) (OV.flat FV.gone)))) (Int.toNat (PV.toI (FV.pv (OV.fv (List.headD (Prod.fst r5) (OV.flat FV.gone)))))) (PV.ptr (some 3) (PV.deref (FV.pv (OV.fv (List.headD (Prod.fst r7) (OV.flat FV.gone))))))) : Nat) : Int) - (2 : Int))) + (1 : Int)) < ((List.length (List.set (FV.xs (OV.fv (List.headD (Prod.fst r6) (OV.flat FV.gone)))) (Int.toNat (PV.toI (FV.pv (OV.fv (List.headD (Prod.fst r5) (OV.flat FV.gone)))))) (PV.ptr (some 3) (PV.deref (FV.pv (OV.fv (List.headD (Prod.fst r7) (OV.flat FV.gone))))))) : Nat) : Int))) <|
  needB (Nat.blt (Int.toNat (IntKind.wrap .i64 (mnI (PV.toI (FV.pv (OV.fv (List.headD (Prod.fst r5) (OV.flat FV.gone))))) (IntKind.wrap .i64 (((List.length (List.set (FV.xs (OV.fv (List.headD (Prod.fst r6) (OV.flat FV.gone)))) (Int.toNat (PV.toI (FV.pv (OV.fv (List.headD (Prod.fst r5) (OV.flat FV.gone)))))) (PV.ptr (some 3) (PV.deref (FV.pv (OV.fv (List.headD (Prod.fst r7) (OV.flat FV.gone))))))) : Nat) : Int) - (2 : Int))) + (1 : Int)))) (List.length (List.set (FV.xs (OV.fv (List.headD (Prod.fst r6) (OV.flat FV.gone)))) (Int.toNat (PV.toI (FV.pv (OV.fv (List.headD (Prod.fst r5) (OV.flat FV.gone)))))) (PV.ptr (some 3) (PV.deref (FV.pv (OV.fv (List.headD (Prod.fst r7) (OV.flat FV.gone))))))))) <|
  needB (hasT Go.Proofs.Try.prog 55 (nthP (List.set (FV.xs (OV.fv (List.headD (Prod.fst r6) (OV.flat FV.gone)))) (Int.toNat (PV.toI (FV.pv (OV.fv (List.headD (Prod.fst r5) (OV.flat FV.gone)))))) (PV.ptr (some 3) (PV.deref (FV.pv (OV.fv (List.headD (Prod.fst r7) (OV.flat FV.gone))))))) (Int.toNat (IntKind.wrap .i64 (mnI (PV.toI (FV.pv (OV.fv (List.headD (Prod.fst r5) (OV.flat FV.gone))))) (IntKind.wrap .i64 (((List.length (List.set (FV.xs (OV.fv (List.headD (Prod.fst r6) (OV.flat FV.gone)))) (Int.toNat (PV.toI (FV.pv (OV.fv (List.headD (Prod.fst r5) (OV.flat FV.gone)))))) (PV.ptr (some 3) (PV.deref (FV.pv (OV.fv (List.headD (Prod.fst r7) (OV.flat FV.gone))))))) : Nat) : Int) - (2 : Int))) + (1 : Int)))))) <|
  callB (rec 52 [OV.flat (FV.val (PV.ptr (some 3) (PV.deref (nthP (List.set (FV.xs (OV.fv (List.headD (Prod.fst r6) (OV.flat FV.gone)))) (Int.toNat (PV.toI (FV.pv (OV.fv (List.headD (Prod.fst r5) (OV.flat FV.gone)))))) (PV.ptr (some 3) (PV.deref (FV.pv (OV.fv (List.headD (Prod.fst r7) (OV.flat FV.gone))))))) (Int.toNat (mnI (PV.toI (FV.pv (OV.fv (List.headD (Prod.fst r5) (OV.flat FV.gone))))) (IntKind.wrap .i64 (((List.length (List.set (FV.xs (OV.fv (List.headD (Prod.fst r6) (OV.flat FV.gone)))) (Int.toNat (PV.toI (FV.pv (OV.fv (List.headD (Prod.fst r5) (OV.flat FV.gone)))))) (PV.ptr (some 3) (PV.deref (FV.pv (OV.fv (List.headD (Prod.fst r7) (OV.flat FV.gone))))))) : Nat) : Int) - (2 : Int))))))))), OV.flat (FV.val (PV.ptr (some 3) (PV.deref (nthP (List.set (FV.xs (OV.fv (List.headD (Prod.fst r6) (OV.flat FV.gone)))) (Int.toNat (PV.toI (FV.pv (OV.fv (List.headD (Prod.fst r5) (OV.flat FV.gone)))))) (PV.ptr (some 3) (PV.deref (FV.pv (OV.fv (List.headD (Prod.fst r7) (OV.flat FV.gone))))))) (Int.toNat (IntKind.wrap .i64 (mnI (PV.toI (FV.pv (OV.fv (List.headD (Prod.fst r5) (OV.flat FV.gone))))) (IntKind.wrap .i64 (((List.length (List.set (FV.xs (OV.fv (List.headD (Prod.fst r6) (OV.flat FV.gone)))) (Int.toNat (PV.toI (FV.pv (OV.fv (List.headD (Prod.fst r5) (OV.flat FV.gone)))))) (PV.ptr (some 3) (PV.deref (FV.pv (OV.fv (List.headD (Prod.fst r7) (OV.flat FV.gone))))))) : Nat) : Int) - (2 : Int))) + (1 : Int))))))))]) fun r9 => needB (okOs Go.Proofs.Try.prog [61] [.o] (Prod.fst r9)) <|
  callB (rec 48 [OV.flat (FV.own none (List.set (FV.xs (OV.fv (List.headD (Prod.fst r6) (OV.flat FV.gone)))) (Int.toNat (PV.toI (FV.pv (OV.fv (List.headD (Prod.fst r5) (OV.flat FV.gone)))))) (PV.ptr (some 3) (PV.deref (FV.pv (OV.fv (List.headD (Prod.fst r7) (OV.flat FV.gone))))))) []), OV.flat (FV.val (PV.int .i64 (mnI (PV.toI (FV.pv (OV.fv (List.headD (Prod.fst r5) (OV.flat FV.gone))))) (IntKind.wrap .i64 (((List.length (List.set (FV.xs (OV.fv (List.headD (Prod.fst r6) (OV.flat FV.gone)))) (Int.toNat (PV.toI (FV.pv (OV.fv (List.headD (Prod.fst r5) (OV.flat FV.gone)))))) (PV.ptr (some 3) (PV.deref (FV.pv (OV.fv (List.headD (Prod.fst r7) (OV.flat FV.gone))))))) : Nat) : Int) - (2 : Int)))))), OV.flat (FV.val (PV.int .i64 (IntKind.wrap .i64 (mnI (PV.toI (FV.pv (OV.fv (List.headD (Prod.fst r5) (OV.flat FV.gone))))) (IntKind.wrap .i64 (((List.length (List.set (FV.xs (OV.fv (List.headD (Prod.fst r6) (OV.flat FV.gone)))) (Int.toNat (PV.toI (FV.pv (OV.fv (List.headD (Prod.fst r5) (OV.flat FV.gone)))))) (PV.ptr (some 3) (PV.deref (FV.pv (OV.fv (List.headD (Prod.fst r7) (OV.flat FV.gone))))))) : Nat) : Int) - (2 : Int))) + (2 : Int))))), OV.flat (FV.own none (FV.xs (OV.fv (List.headD (Prod.fst r9) (OV.flat FV.gone)))) [])]) fun r10 => needB (okOs Go.Proofs.Try.prog [61] [.o] (Prod.fst r10)) <|
  callB (rec 29 [OV.flat (FV.val (PV.sl none (FV.xs (OV.fv (List.headD (Prod.fst r10) (OV.flat FV.gone))))))]) fun r11 => needB (okOs Go.Proofs.Try.prog [55] [] (Prod.fst r11)) <|
  some ([OV.flat (FV.val (PV.ptr (some 3) (PV.deref (FV.pv (OV.fv (List.headD (Prod.fst r11) (OV.flat FV.gone)))))))], []))
  (callB (rec 29 [OV.flat (FV.val (PV.sl none (List.set (FV.xs (OV.fv (List.headD (Prod.fst r6) (OV.flat FV.gone)))) (Int.toNat (PV.toI (FV.pv (OV.fv (List.headD (Prod.fst r5) (OV.flat FV.gone)))))) (PV.ptr (some 3) (PV.deref (FV.pv (OV.fv (List.headD (Prod.fst r7) (OV.flat FV.gone)))))))))]) fun r12 => needB (okOs Go.Proofs.Try.prog [55] [] (Prod.fst r12)) <|
  some ([OV.flat (FV.val (PV.ptr (some 3) (PV.deref (FV.pv (OV.fv (List.headD (Prod.fst r12) (OV.flat FV.gone)))))))], [])))

theorem f30_btree_page_without_eq (rec : Rec) (n : Nat) (a0 : PV) (a1 : List PV) : callBody C rec n 30 [OV.flat (FV.val (PV.ptr (some 3) a0)), OV.flat (FV.val (PV.sl none a1))] = f30_btree_page_without rec n a0 a1 := by kernel_rfl

noncomputable def f31_btree_leaf (rec : Rec) (n : Nat) (a0 : List PV) : Option (List OV × List OV) :=
  some ([OV.cont .box [FV.val (PV.sl (some 2) a0), FV.val (PV.sl none []), FV.val (PV.int .i64 ((List.length a0 : Nat) : Int))]], [])

theorem f31_btree_leaf_eq (rec : Rec) (n : Nat) (a0 : List PV) : callBody C rec n 31 [OV.flat (FV.val (PV.sl (some 2) a0))] = f31_btree_leaf rec n a0 := by kernel_rfl

noncomputable def f40_api_Entry_byte.l0.step (rec : Rec) (n : Nat) (self_l0 : List PV → List PV → Int → Int → Int → Option (List OV × List OV)) (x0 : List PV) (x1 : List PV) (x2 : Int) (x3 : Int) (x4 : Int) : Option (List OV × List OV) :=
  ifB (decide (x3 < x4))
  (needB (decide ((0 : Int) ≤ IntKind.wrap .i64 (Int.fdiv (IntKind.wrap .u64 (IntKind.wrap .i64 (x3 + x4))) ((2 : Int) ^ (min 1 (IntKind.bits .u64)))))) <|
  needB (decide (IntKind.wrap .i64 (Int.fdiv (IntKind.wrap .u64 (IntKind.wrap .i64 (x3 + x4))) ((2 : Int) ^ (min 1 (IntKind.bits .u64)))) < ((List.length x0 : Nat) : Int))) <|
  needB (hasT Go.Proofs.Try.prog 33 (nthP x0 (Int.toNat (IntKind.wrap .i64 (Int.fdiv (IntKind.wrap .u64 (IntKind.wrap .i64 (x3 + x4))) ((2 : Int) ^ (min 1 (IntKind.bits .u64)))))))) <|
  callB (rec 41 [OV.flat (FV.val (PV.agg [PV.sl none (PV.toL (List.headD (PV.cells (nthP x0 (Int.toNat (IntKind.wrap .i64 (Int.fdiv (IntKind.wrap .u64 (IntKind.wrap .i64 (x3 + x4))) ((2 : Int) ^ (min 1 (IntKind.bits .u64)))))))) PV.undef)), PV.sl none (PV.toL (List.headD (List.tail (PV.cells (nthP x0 (Int.toNat (IntKind.wrap .i64 (Int.fdiv (IntKind.wrap .u64 (IntKind.wrap .i64 (x3 + x4))) ((2 : Int) ^ (min 1 (IntKind.bits .u64))))))))) PV.undef))])), OV.flat (FV.val (PV.sl none x1))]) fun r1 => needB (okOs Go.Proofs.Try.prog [3] [] (Prod.fst r1)) <|
  ifB (decide (PV.toI (FV.pv (OV.fv (List.headD (Prod.fst r1) (OV.flat FV.gone)))) < (0 : Int)))
  (self_l0 x0 x1 x2 (IntKind.wrap .i64 (IntKind.wrap .i64 (Int.fdiv (IntKind.wrap .u64 (IntKind.wrap .i64 (x3 + x4))) ((2 : Int) ^ (min 1 (IntKind.bits .u64)))) + (1 : Int))) x4)
  (self_l0 x0 x1 x2 x3 (IntKind.wrap .i64 (Int.fdiv (IntKind.wrap .u64 (IntKind.wrap .i64 (x3 + x4))) ((2 : Int) ^ (min 1 (IntKind.bits .u64)))))))
  (ifB (decide (x3 < x2))
  (needB (decide ((0 : Int) ≤ x3)) <|
  needB (decide (x3 < ((List.length x0 : Nat) : Int))) <|
  needB (hasT Go.Proofs.Try.prog 33 (nthP x0 (Int.toNat x3))) <|
  callB (rec 41 [OV.flat (FV.val (PV.agg [PV.sl none (PV.toL (List.headD (PV.cells (nthP x0 (Int.toNat x3))) PV.undef)), PV.sl none (PV.toL (List.headD (List.tail (PV.cells (nthP x0 (Int.toNat x3)))) PV.undef))])), OV.flat (FV.val (PV.sl none x1))]) fun r2 => needB (okOs Go.Proofs.Try.prog [3] [] (Prod.fst r2)) <|
  some ([OV.flat (FV.val (PV.int .i64 x3)), OV.flat (FV.val (PV.bool (PV.toI (FV.pv (OV.fv (List.headD (Prod.fst r2) (OV.flat FV.gone)))) == (0 : Int))))], []))
  (some ([OV.flat (FV.val (PV.int .i64 x3)), OV.flat (FV.val (PV.bool false))], [])))

noncomputable def f40_api_Entry_byte.l0 (rec : Rec) (n : Nat) : Nat → List PV → List PV → Int → Int → Int → Option (List OV × List OV)
  | 0, _, _, _, _, _ => none
  | m + 1, x0, x1, x2, x3, x4 => f40_api_Entry_byte.l0.step rec n (f40_api_Entry_byte.l0 rec n m) x0 x1 x2 x3 x4

theorem f40_api_Entry_byte.l0_eq (rec : Rec) (n : Nat) : ∀ (m : Nat) (x0 : List PV) (x1 : List PV) (x2 : Int) (x3 : Int) (x4 : Int), loopAt C rec n 40 [1, 1, 1, 0, 0] [] m [(0, SV.home (OV.flat (FV.val (PV.sl (some 2) x0)))), (1, SV.home (OV.flat (FV.val (PV.sl none x1)))), (2, SV.home (OV.flat (FV.val (PV.fn (Fn.func 41) [] [])))), (8, SV.home (OV.flat (FV.val (PV.int .i64 x2)))), (9, SV.home (OV.flat (FV.val (PV.int .i64 x3)))), (10, SV.home (OV.flat (FV.val (PV.int .i64 x4))))] = f40_api_Entry_byte.l0 rec n m x0 x1 x2 x3 x4
  | 0, x0, x1, x2, x3, x4 => by kernel_rfl
  | m + 1, x0, x1, x2, x3, x4 => by
    have ih : (fun x0 x1 x2 x3 x4 => loopAt C rec n 40 [1, 1, 1, 0, 0] [] m [(0, SV.home (OV.flat (FV.val (PV.sl (some 2) x0)))), (1, SV.home (OV.flat (FV.val (PV.sl none x1)))), (2, SV.home (OV.flat (FV.val (PV.fn (Fn.func 41) [] [])))), (8, SV.home (OV.flat (FV.val (PV.int .i64 x2)))), (9, SV.home (OV.flat (FV.val (PV.int .i64 x3)))), (10, SV.home (OV.flat (FV.val (PV.int .i64 x4))))]) = f40_api_Entry_byte.l0 rec n m := funext fun x0 => funext fun x1 => funext fun x2 => funext fun x3 => funext fun x4 => f40_api_Entry_byte.l0_eq rec n m x0 x1 x2 x3 x4
    exact (show loopAt C rec n 40 [1, 1, 1, 0, 0] [] (m + 1) [(0, SV.home (OV.flat (FV.val (PV.sl (some 2) x0)))), (1, SV.home (OV.flat (FV.val (PV.sl none x1)))), (2, SV.home (OV.flat (FV.val (PV.fn (Fn.func 41) [] [])))), (8, SV.home (OV.flat (FV.val (PV.int .i64 x2)))), (9, SV.home (OV.flat (FV.val (PV.int .i64 x3)))), (10, SV.home (OV.flat (FV.val (PV.int .i64 x4))))] = f40_api_Entry_byte.l0.step rec n (fun x0 x1 x2 x3 x4 => loopAt C rec n 40 [1, 1, 1, 0, 0] [] m [(0, SV.home (OV.flat (FV.val (PV.sl (some 2) x0)))), (1, SV.home (OV.flat (FV.val (PV.sl none x1)))), (2, SV.home (OV.flat (FV.val (PV.fn (Fn.func 41) [] [])))), (8, SV.home (OV.flat (FV.val (PV.int .i64 x2)))), (9, SV.home (OV.flat (FV.val (PV.int .i64 x3)))), (10, SV.home (OV.flat (FV.val (PV.int .i64 x4))))]) x0 x1 x2 x3 x4 from by kernel_rfl).trans (by rw [ih]; rfl)

noncomputable def f40_api_Entry_byte.pre (rec : Rec) (n : Nat) (l0 : List PV → List PV → Int → Int → Int → Option (List OV × List OV)) (a0 : List PV) (a1 : List PV) : Option (List OV × List OV) :=
  l0 a0 a1 ((List.length a0 : Nat) : Int) (0 : Int) ((List.length a0 : Nat) : Int)

noncomputable def f40_api_Entry_byte (rec : Rec) (n : Nat) (a0 : List PV) (a1 : List PV) : Option (List OV × List OV) := f40_api_Entry_byte.pre rec n (f40_api_Entry_byte.l0 rec n n) a0 a1

theorem f40_api_Entry_byte_eq (rec : Rec) (n : Nat) (a0 : List PV) (a1 : List PV) : callBody C rec n 40 [OV.flat (FV.val (PV.sl (some 2) a0)), OV.flat (FV.val (PV.sl none a1)), OV.flat (FV.val (PV.fn (Fn.func 41) [] []))] = f40_api_Entry_byte rec n a0 a1 := by
  have i0 : (fun x0 x1 x2 x3 x4 => loopAt C rec n 40 [1, 1, 1, 0, 0] [] n [(0, SV.home (OV.flat (FV.val (PV.sl (some 2) x0)))), (1, SV.home (OV.flat (FV.val (PV.sl none x1)))), (2, SV.home (OV.flat (FV.val (PV.fn (Fn.func 41) [] [])))), (8, SV.home (OV.flat (FV.val (PV.int .i64 x2)))), (9, SV.home (OV.flat (FV.val (PV.int .i64 x3)))), (10, SV.home (OV.flat (FV.val (PV.int .i64 x4))))]) = f40_api_Entry_byte.l0 rec n n := funext fun x0 => funext fun x1 => funext fun x2 => funext fun x3 => funext fun x4 => f40_api_Entry_byte.l0_eq rec n n x0 x1 x2 x3 x4
  exact (show callBody C rec n 40 [OV.flat (FV.val (PV.sl (some 2) a0)), OV.flat (FV.val (PV.sl none a1)), OV.flat (FV.val (PV.fn (Fn.func 41) [] []))] = f40_api_Entry_byte.pre rec n (fun x0 x1 x2 x3 x4 => loopAt C rec n 40 [1, 1, 1, 0, 0] [] n [(0, SV.home (OV.flat (FV.val (PV.sl (some 2) x0)))), (1, SV.home (OV.flat (FV.val (PV.sl none x1)))), (2, SV.home (OV.flat (FV.val (PV.fn (Fn.func 41) [] [])))), (8, SV.home (OV.flat (FV.val (PV.int .i64 x2)))), (9, SV.home (OV.flat (FV.val (PV.int .i64 x3)))), (10, SV.home (OV.flat (FV.val (PV.int .i64 x4))))]) a0 a1 from by kernel_rfl).trans (by rw [i0]; rfl)

noncomputable def f41_btree_page_place_1 (rec : Rec) (n : Nat) (a0 : List PV) (a1 : List PV) (a2 : List PV) : Option (List OV × List OV) :=
  callB (rec 42 [OV.flat (FV.val (PV.sl none a0)), OV.flat (FV.val (PV.sl none a2))]) fun r1 => needB (okOs Go.Proofs.Try.prog [3] [] (Prod.fst r1)) <|
  some ([OV.flat (FV.val (PV.int .i64 (PV.toI (FV.pv (OV.fv (List.headD (Prod.fst r1) (OV.flat FV.gone)))))))], [])

theorem f41_btree_page_place_1_eq (rec : Rec) (n : Nat) (a0 : List PV) (a1 : List PV) (a2 : List PV) : callBody C rec n 41 [OV.flat (FV.val (PV.agg [PV.sl none a0, PV.sl none a1])), OV.flat (FV.val (PV.sl none a2))] = f41_btree_page_place_1 rec n a0 a1 a2 := by kernel_rfl

noncomputable def f43_btree_page_way.l0.step (rec : Rec) (n : Nat) (self_l0 : PV → List PV → Int → Option (List OV × List OV)) (x0 : PV) (x1 : List PV) (x2 : Int) : Option (List OV × List OV) :=
  needB (isPtrS (PV.ptr (some 3) x0) && hasT Go.Proofs.Try.prog 63 (PV.deref (PV.ptr (some 3) x0))) <|
  ifB (decide (IntKind.wrap .i64 (x2 + (1 : Int)) < ((List.length (PV.toL (List.headD (List.tail (PV.cells (PV.deref (PV.ptr (some 3) x0)))) PV.undef)) : Nat) : Int)))
  (needB (isPtrS (PV.ptr (some 3) x0) && hasT Go.Proofs.Try.prog 63 (PV.deref (PV.ptr (some 3) x0))) <|
  needB (decide ((0 : Int) ≤ IntKind.wrap .i64 (x2 + (1 : Int)))) <|
  needB (decide (IntKind.wrap .i64 (x2 + (1 : Int)) < ((List.length (PV.toL (List.headD (List.tail (PV.cells (PV.deref (PV.ptr (some 3) x0)))) PV.undef)) : Nat) : Int))) <|
  needB (hasT Go.Proofs.Try.prog 55 (nthP (PV.toL (List.headD (List.tail (PV.cells (PV.deref (PV.ptr (some 3) x0)))) PV.undef)) (Int.toNat (IntKind.wrap .i64 (x2 + (1 : Int)))))) <|
  callB (rec 57 [OV.flat (FV.val (PV.ptr (some 3) (PV.deref (nthP (PV.toL (List.headD (List.tail (PV.cells (PV.deref (PV.ptr (some 3) x0)))) PV.undef)) (Int.toNat (IntKind.wrap .i64 (x2 + (1 : Int))))))))]) fun r1 => needB (okOs Go.Proofs.Try.prog [23] [] (Prod.fst r1)) <|
  callB (rec 42 [OV.flat (FV.val (PV.sl none (PV.toL (FV.pv (OV.fv (List.headD (Prod.fst r1) (OV.flat FV.gone))))))), OV.flat (FV.val (PV.sl none x1))]) fun r2 => needB (okOs Go.Proofs.Try.prog [3] [] (Prod.fst r2)) <|
  ifB (decide (PV.toI (FV.pv (OV.fv (List.headD (Prod.fst r2) (OV.flat FV.gone)))) ≤ (0 : Int)))
  (self_l0 x0 x1 (IntKind.wrap .i64 (x2 + (1 : Int))))
  (some ([OV.flat (FV.val (PV.int .i64 x2))], [])))
  (some ([OV.flat (FV.val (PV.int .i64 x2))], []))

noncomputable def f43_btree_page_way.l0 (rec : Rec) (n : Nat) : Nat → PV → List PV → Int → Option (List OV × List OV)
  | 0, _, _, _ => none
  | m + 1, x0, x1, x2 => f43_btree_page_way.l0.step rec n (f43_btree_page_way.l0 rec n m) x0 x1 x2

theorem f43_btree_page_way.l0_eq (rec : Rec) (n : Nat) : ∀ (m : Nat) (x0 : PV) (x1 : List PV) (x2 : Int), loopAt C rec n 43 [1, 1, 0, 0] [] m [(0, SV.home (OV.flat (FV.val (PV.ptr (some 3) x0)))), (1, SV.home (OV.flat (FV.val (PV.sl none x1)))), (5, SV.home (OV.flat (FV.val (PV.int .i64 x2))))] = f43_btree_page_way.l0 rec n m x0 x1 x2
  | 0, x0, x1, x2 => by kernel_rfl
  | m + 1, x0, x1, x2 => by
    have ih : (fun x0 x1 x2 => loopAt C rec n 43 [1, 1, 0, 0] [] m [(0, SV.home (OV.flat (FV.val (PV.ptr (some 3) x0)))), (1, SV.home (OV.flat (FV.val (PV.sl none x1)))), (5, SV.home (OV.flat (FV.val (PV.int .i64 x2))))]) = f43_btree_page_way.l0 rec n m := funext fun x0 => funext fun x1 => funext fun x2 => f43_btree_page_way.l0_eq rec n m x0 x1 x2
    exact (show loopAt C rec n 43 [1, 1, 0, 0] [] (m + 1) [(0, SV.home (OV.flat (FV.val (PV.ptr (some 3) x0)))), (1, SV.home (OV.flat (FV.val (PV.sl none x1)))), (5, SV.home (OV.flat (FV.val (PV.int .i64 x2))))] = f43_btree_page_way.l0.step rec n (fun x0 x1 x2 => loopAt C rec n 43 [1, 1, 0, 0] [] m [(0, SV.home (OV.flat (FV.val (PV.ptr (some 3) x0)))), (1, SV.home (OV.flat (FV.val (PV.sl none x1)))), (5, SV.home (OV.flat (FV.val (PV.int .i64 x2))))]) x0 x1 x2 from by kernel_rfl).trans (by rw [ih]; rfl)

noncomputable def f43_btree_page_way.pre (rec : Rec) (n : Nat) (l0 : PV → List PV → Int → Option (List OV × List OV)) (a0 : PV) (a1 : List PV) : Option (List OV × List OV) :=
  l0 a0 a1 (0 : Int)

noncomputable def f43_btree_page_way (rec : Rec) (n : Nat) (a0 : PV) (a1 : List PV) : Option (List OV × List OV) := f43_btree_page_way.pre rec n (f43_btree_page_way.l0 rec n n) a0 a1

theorem f43_btree_page_way_eq (rec : Rec) (n : Nat) (a0 : PV) (a1 : List PV) : callBody C rec n 43 [OV.flat (FV.val (PV.ptr (some 3) a0)), OV.flat (FV.val (PV.sl none a1))] = f43_btree_page_way rec n a0 a1 := by
  have i0 : (fun x0 x1 x2 => loopAt C rec n 43 [1, 1, 0, 0] [] n [(0, SV.home (OV.flat (FV.val (PV.ptr (some 3) x0)))), (1, SV.home (OV.flat (FV.val (PV.sl none x1)))), (5, SV.home (OV.flat (FV.val (PV.int .i64 x2))))]) = f43_btree_page_way.l0 rec n n := funext fun x0 => funext fun x1 => funext fun x2 => f43_btree_page_way.l0_eq rec n n x0 x1 x2
  exact (show callBody C rec n 43 [OV.flat (FV.val (PV.ptr (some 3) a0)), OV.flat (FV.val (PV.sl none a1))] = f43_btree_page_way.pre rec n (fun x0 x1 x2 => loopAt C rec n 43 [1, 1, 0, 0] [] n [(0, SV.home (OV.flat (FV.val (PV.ptr (some 3) x0)))), (1, SV.home (OV.flat (FV.val (PV.sl none x1)))), (5, SV.home (OV.flat (FV.val (PV.int .i64 x2))))]) a0 a1 from by kernel_rfl).trans (by rw [i0]; rfl)

noncomputable def f46_btree_leaves (rec : Rec) (n : Nat) (a0 : List PV) : Option (List OV × List OV) :=
  ifB (decide (((List.length a0 : Nat) : Int) ≤ (4 : Int)))
  (callB (rec 31 [OV.flat (FV.val (PV.sl (some 2) a0))]) fun r1 => needB (okOs Go.Proofs.Try.prog [55] [] (Prod.fst r1)) <|
  some ([OV.flat (FV.own none [PV.ptr (some 3) (PV.deref (FV.pv (OV.fv (List.headD (Prod.fst r1) (OV.flat FV.gone)))))] [])], []))
  (needB (decide ((0 : Int) ≤ IntKind.wrap .i64 (Int.tdiv (IntKind.wrap .i64 (((List.length a0 : Nat) : Int) + (1 : Int))) (2 : Int)))) <|
  needB (decide (IntKind.wrap .i64 (Int.tdiv (IntKind.wrap .i64 (((List.length a0 : Nat) : Int) + (1 : Int))) (2 : Int)) ≤ IntKind.wrap .i64 (Int.tdiv (IntKind.wrap .i64 (((List.length a0 : Nat) : Int) + (1 : Int))) (2 : Int)))) <|
  needB (decide (IntKind.wrap .i64 (Int.tdiv (IntKind.wrap .i64 (((List.length a0 : Nat) : Int) + (1 : Int))) (2 : Int)) ≤ ((List.length a0 : Nat) : Int))) <|
  callB (rec 31 [OV.flat (FV.val (PV.sl (some 2) (List.take (Int.toNat (IntKind.wrap .i64 (Int.tdiv (IntKind.wrap .i64 (((List.length a0 : Nat) : Int) + (1 : Int))) (2 : Int)))) a0)))]) fun r2 => needB (okOs Go.Proofs.Try.prog [55] [] (Prod.fst r2)) <|
  needB (decide ((0 : Int) ≤ IntKind.wrap .i64 (Int.tdiv (IntKind.wrap .i64 (((List.length a0 : Nat) : Int) + (1 : Int))) (2 : Int)))) <|
  needB (decide (IntKind.wrap .i64 (Int.tdiv (IntKind.wrap .i64 (((List.length a0 : Nat) : Int) + (1 : Int))) (2 : Int)) ≤ ((List.length a0 : Nat) : Int))) <|
  callB (rec 31 [OV.flat (FV.val (PV.sl (some 2) (List.drop (Int.toNat (IntKind.wrap .i64 (Int.tdiv (IntKind.wrap .i64 (((List.length a0 : Nat) : Int) + (1 : Int))) (2 : Int)))) a0)))]) fun r3 => needB (okOs Go.Proofs.Try.prog [55] [] (Prod.fst r3)) <|
  some ([OV.flat (FV.own none [PV.ptr (some 3) (PV.deref (FV.pv (OV.fv (List.headD (Prod.fst r2) (OV.flat FV.gone))))), PV.ptr (some 3) (PV.deref (FV.pv (OV.fv (List.headD (Prod.fst r3) (OV.flat FV.gone)))))] [])], []))

theorem f46_btree_leaves_eq (rec : Rec) (n : Nat) (a0 : List PV) : callBody C rec n 46 [OV.flat (FV.val (PV.sl (some 2) a0))] = f46_btree_leaves rec n a0 := by kernel_rfl

noncomputable def f47_btree_pages (rec : Rec) (n : Nat) (a0 : List PV) : Option (List OV × List OV) :=
  ifB (decide (((List.length a0 : Nat) : Int) ≤ (4 : Int)))
  (callB (rec 29 [OV.flat (FV.val (PV.sl none a0))]) fun r1 => needB (okOs Go.Proofs.Try.prog [55] [] (Prod.fst r1)) <|
  some ([OV.flat (FV.own none [PV.ptr (some 3) (PV.deref (FV.pv (OV.fv (List.headD (Prod.fst r1) (OV.flat FV.gone)))))] [])], []))
  (needB (decide ((0 : Int) ≤ IntKind.wrap .i64 (Int.tdiv (IntKind.wrap .i64 (((List.length a0 : Nat) : Int) + (1 : Int))) (2 : Int)))) <|
  needB (decide (IntKind.wrap .i64 (Int.tdiv (IntKind.wrap .i64 (((List.length a0 : Nat) : Int) + (1 : Int))) (2 : Int)) ≤ IntKind.wrap .i64 (Int.tdiv (IntKind.wrap .i64 (((List.length a0 : Nat) : Int) + (1 : Int))) (2 : Int)))) <|
  needB (decide (IntKind.wrap .i64 (Int.tdiv (IntKind.wrap .i64 (((List.length a0 : Nat) : Int) + (1 : Int))) (2 : Int)) ≤ ((List.length a0 : Nat) : Int))) <|
  callB (rec 29 [OV.flat (FV.val (PV.sl none (List.take (Int.toNat (IntKind.wrap .i64 (Int.tdiv (IntKind.wrap .i64 (((List.length a0 : Nat) : Int) + (1 : Int))) (2 : Int)))) a0)))]) fun r2 => needB (okOs Go.Proofs.Try.prog [55] [] (Prod.fst r2)) <|
  needB (decide ((0 : Int) ≤ IntKind.wrap .i64 (Int.tdiv (IntKind.wrap .i64 (((List.length a0 : Nat) : Int) + (1 : Int))) (2 : Int)))) <|
  needB (decide (IntKind.wrap .i64 (Int.tdiv (IntKind.wrap .i64 (((List.length a0 : Nat) : Int) + (1 : Int))) (2 : Int)) ≤ ((List.length a0 : Nat) : Int))) <|
  callB (rec 29 [OV.flat (FV.val (PV.sl none (List.drop (Int.toNat (IntKind.wrap .i64 (Int.tdiv (IntKind.wrap .i64 (((List.length a0 : Nat) : Int) + (1 : Int))) (2 : Int)))) a0)))]) fun r3 => needB (okOs Go.Proofs.Try.prog [55] [] (Prod.fst r3)) <|
  some ([OV.flat (FV.own none [PV.ptr (some 3) (PV.deref (FV.pv (OV.fv (List.headD (Prod.fst r2) (OV.flat FV.gone))))), PV.ptr (some 3) (PV.deref (FV.pv (OV.fv (List.headD (Prod.fst r3) (OV.flat FV.gone)))))] [])], []))

theorem f47_btree_pages_eq (rec : Rec) (n : Nat) (a0 : List PV) : callBody C rec n 47 [OV.flat (FV.val (PV.sl none a0))] = f47_btree_pages rec n a0 := by kernel_rfl

noncomputable def f51_btree_page_size (rec : Rec) (n : Nat) (a0 : PV) : Option (List OV × List OV) :=
  needB (isPtrS (PV.ptr (some 3) a0) && hasT Go.Proofs.Try.prog 63 (PV.deref (PV.ptr (some 3) a0))) <|
  needB (isPtrS (PV.ptr (some 3) a0) && hasT Go.Proofs.Try.prog 63 (PV.deref (PV.ptr (some 3) a0))) <|
  some ([OV.flat (FV.val (PV.int .i64 (IntKind.wrap .i64 (((List.length (PV.toL (List.headD (PV.cells (PV.deref (PV.ptr (some 3) a0))) PV.undef)) : Nat) : Int) + ((List.length (PV.toL (List.headD (List.tail (PV.cells (PV.deref (PV.ptr (some 3) a0)))) PV.undef)) : Nat) : Int)))))], [])

theorem f51_btree_page_size_eq (rec : Rec) (n : Nat) (a0 : PV) : callBody C rec n 51 [OV.flat (FV.val (PV.ptr (some 3) a0))] = f51_btree_page_size rec n a0 := by kernel_rfl

noncomputable def f52_btree_join (rec : Rec) (n : Nat) (a0 : PV) (a1 : PV) : Option (List OV × List OV) :=
  needB (isPtrS (PV.ptr (some 3) a0) && hasT Go.Proofs.Try.prog 63 (PV.deref (PV.ptr (some 3) a0))) <|
  ifB (((List.length (PV.toL (List.headD (List.tail (PV.cells (PV.deref (PV.ptr (some 3) a0)))) PV.undef)) : Nat) : Int) == (0 : Int))
  (needB (isPtrS (PV.ptr (some 3) a0) && hasT Go.Proofs.Try.prog 63 (PV.deref (PV.ptr (some 3) a0))) <|
  needB (isPtrS (PV.ptr (some 3) a1) && hasT Go.Proofs.Try.prog 63 (PV.deref (PV.ptr (some 3) a1))) <|
  callB (rec 64 [OV.flat (FV.val (PV.sl none [PV.sl (some 2) (PV.toL (List.headD (PV.cells (PV.deref (PV.ptr (some 3) a0))) PV.undef)), PV.sl (some 2) (PV.toL (List.headD (PV.cells (PV.deref (PV.ptr (some 3) a1))) PV.undef))]))]) fun r1 => needB (okOs Go.Proofs.Try.prog [27] [.o] (Prod.fst r1)) <|
  callB (rec 46 [OV.flat (FV.val (PV.sl (some 2) (FV.xs (OV.fv (List.headD (Prod.fst r1) (OV.flat FV.gone))))))]) fun r2 => needB (okOs Go.Proofs.Try.prog [61] [.o] (Prod.fst r2)) <|
  some ([OV.flat (FV.own none (FV.xs (OV.fv (List.headD (Prod.fst r2) (OV.flat FV.gone)))) [])], []))
  (needB (isPtrS (PV.ptr (some 3) a0) && hasT Go.Proofs.Try.prog 63 (PV.deref (PV.ptr (some 3) a0))) <|
  needB (isPtrS (PV.ptr (some 3) a1) && hasT Go.Proofs.Try.prog 63 (PV.deref (PV.ptr (some 3) a1))) <|
  callB (rec 65 [OV.flat (FV.val (PV.sl none [PV.sl none (PV.toL (List.headD (List.tail (PV.cells (PV.deref (PV.ptr (some 3) a0)))) PV.undef)), PV.sl none (PV.toL (List.headD (List.tail (PV.cells (PV.deref (PV.ptr (some 3) a1)))) PV.undef))]))]) fun r3 => needB (okOs Go.Proofs.Try.prog [61] [.o] (Prod.fst r3)) <|
  callB (rec 47 [OV.flat (FV.val (PV.sl none (FV.xs (OV.fv (List.headD (Prod.fst r3) (OV.flat FV.gone))))))]) fun r4 => needB (okOs Go.Proofs.Try.prog [61] [.o] (Prod.fst r4)) <|
  some ([OV.flat (FV.own none (FV.xs (OV.fv (List.headD (Prod.fst r4) (OV.flat FV.gone)))) [])], []))

theorem f52_btree_join_eq (rec : Rec) (n : Nat) (a0 : PV) (a1 : PV) : callBody C rec n 52 [OV.flat (FV.val (PV.ptr (some 3) a0)), OV.flat (FV.val (PV.ptr (some 3) a1))] = f52_btree_join rec n a0 a1 := by kernel_rfl

noncomputable def f57_btree_page_least.l0.step (rec : Rec) (n : Nat) (self_l0 : PV → Option (List OV × List OV)) (x0 : PV) : Option (List OV × List OV) :=
  needB (isPtrS (PV.ptr (some 3) x0) && hasT Go.Proofs.Try.prog 63 (PV.deref (PV.ptr (some 3) x0))) <|
  ifB (decide (((List.length (PV.toL (List.headD (List.tail (PV.cells (PV.deref (PV.ptr (some 3) x0)))) PV.undef)) : Nat) : Int) > (0 : Int)))
  (needB (isPtrS (PV.ptr (some 3) x0) && hasT Go.Proofs.Try.prog 63 (PV.deref (PV.ptr (some 3) x0))) <|
  needB (decide ((0 : Int) < ((List.length (PV.toL (List.headD (List.tail (PV.cells (PV.deref (PV.ptr (some 3) x0)))) PV.undef)) : Nat) : Int))) <|
  needB (hasT Go.Proofs.Try.prog 55 (nthP (PV.toL (List.headD (List.tail (PV.cells (PV.deref (PV.ptr (some 3) x0)))) PV.undef)) 0)) <|
  self_l0 (PV.deref (nthP (PV.toL (List.headD (List.tail (PV.cells (PV.deref (PV.ptr (some 3) x0)))) PV.undef)) 0)))
  (needB (isPtrS (PV.ptr (some 3) x0) && hasT Go.Proofs.Try.prog 63 (PV.deref (PV.ptr (some 3) x0))) <|
  needB (decide ((0 : Int) < ((List.length (PV.toL (List.headD (PV.cells (PV.deref (PV.ptr (some 3) x0))) PV.undef)) : Nat) : Int))) <|
  needB (hasT Go.Proofs.Try.prog 33 (nthP (PV.toL (List.headD (PV.cells (PV.deref (PV.ptr (some 3) x0))) PV.undef)) 0)) <|
  some ([OV.flat (FV.val (PV.sl none (PV.toL (List.headD (PV.cells (nthP (PV.toL (List.headD (PV.cells (PV.deref (PV.ptr (some 3) x0))) PV.undef)) 0)) PV.undef))))], []))

noncomputable def f57_btree_page_least.l0 (rec : Rec) (n : Nat) : Nat → PV → Option (List OV × List OV)
  | 0, _ => none
  | m + 1, x0 => f57_btree_page_least.l0.step rec n (f57_btree_page_least.l0 rec n m) x0

theorem f57_btree_page_least.l0_eq (rec : Rec) (n : Nat) : ∀ (m : Nat) (x0 : PV), loopAt C rec n 57 [1, 0, 0] [] m [(0, SV.home (OV.flat (FV.val (PV.ptr (some 3) x0))))] = f57_btree_page_least.l0 rec n m x0
  | 0, x0 => by kernel_rfl
  | m + 1, x0 => by
    have ih : (fun x0 => loopAt C rec n 57 [1, 0, 0] [] m [(0, SV.home (OV.flat (FV.val (PV.ptr (some 3) x0))))]) = f57_btree_page_least.l0 rec n m := funext fun x0 => f57_btree_page_least.l0_eq rec n m x0
    exact (show loopAt C rec n 57 [1, 0, 0] [] (m + 1) [(0, SV.home (OV.flat (FV.val (PV.ptr (some 3) x0))))] = f57_btree_page_least.l0.step rec n (fun x0 => loopAt C rec n 57 [1, 0, 0] [] m [(0, SV.home (OV.flat (FV.val (PV.ptr (some 3) x0))))]) x0 from by kernel_rfl).trans (by rw [ih]; rfl)

noncomputable def f57_btree_page_least.pre (rec : Rec) (n : Nat) (l0 : PV → Option (List OV × List OV)) (a0 : PV) : Option (List OV × List OV) :=
  l0 a0

noncomputable def f57_btree_page_least (rec : Rec) (n : Nat) (a0 : PV) : Option (List OV × List OV) := f57_btree_page_least.pre rec n (f57_btree_page_least.l0 rec n n) a0

theorem f57_btree_page_least_eq (rec : Rec) (n : Nat) (a0 : PV) : callBody C rec n 57 [OV.flat (FV.val (PV.ptr (some 3) a0))] = f57_btree_page_least rec n a0 := by
  have i0 : (fun x0 => loopAt C rec n 57 [1, 0, 0] [] n [(0, SV.home (OV.flat (FV.val (PV.ptr (some 3) x0))))]) = f57_btree_page_least.l0 rec n n := funext fun x0 => f57_btree_page_least.l0_eq rec n n x0
  exact (show callBody C rec n 57 [OV.flat (FV.val (PV.ptr (some 3) a0))] = f57_btree_page_least.pre rec n (fun x0 => loopAt C rec n 57 [1, 0, 0] [] n [(0, SV.home (OV.flat (FV.val (PV.ptr (some 3) x0))))]) a0 from by kernel_rfl).trans (by rw [i0]; rfl)

noncomputable def f64_api_Entry.l1.step (rec : Rec) (n : Nat) (self_l1 : List PV → List PV → Int → Int → Option (List OV × List OV)) (x0 : List PV) (x1 : List PV) (x2 : Int) (x3 : Int) : Option (List OV × List OV) :=
  ifB (decide (x3 < x2))
  (needB (decide ((0 : Int) ≤ x3)) <|
  needB (decide (x3 < ((List.length x1 : Nat) : Int))) <|
  needB (hasT Go.Proofs.Try.prog 27 (nthP x1 (Int.toNat x3))) <|
  needB (Nat.ble ((List.length x0 + List.length (PV.toL (nthP x1 (Int.toNat x3)))) * 48) 140737488355328) <|
  needB (Nat.ble (List.length x0 + List.length (PV.toL (nthP x1 (Int.toNat x3)))) 9223372036854775807) <|
  self_l1 (x0 ++ (PV.toL (nthP x1 (Int.toNat x3)))) x1 x2 (IntKind.wrap .i64 (x3 + (1 : Int))))
  (some ([OV.flat (FV.own (some 2) x0 [])], []))

noncomputable def f64_api_Entry.l1 (rec : Rec) (n : Nat) : Nat → List PV → List PV → Int → Int → Option (List OV × List OV)
  | 0, _, _, _, _ => none
  | m + 1, x0, x1, x2, x3 => f64_api_Entry.l1.step rec n (f64_api_Entry.l1 rec n m) x0 x1 x2 x3

theorem f64_api_Entry.l1_eq (rec : Rec) (n : Nat) : ∀ (m : Nat) (x0 : List PV) (x1 : List PV) (x2 : Int) (x3 : Int), loopAt C rec n 64 [1, 1, 1, 1, 0, 1, 0] [] m [(6, SV.home (OV.flat (FV.own (some 2) x0 []))), (25, SV.home (OV.flat (FV.val (PV.sl none x1)))), (26, SV.home (OV.flat (FV.val (PV.int .i64 x2)))), (27, SV.home (OV.flat (FV.val (PV.int .i64 x3))))] = f64_api_Entry.l1 rec n m x0 x1 x2 x3
  | 0, x0, x1, x2, x3 => by kernel_rfl
  | m + 1, x0, x1, x2, x3 => by
    have ih : (fun x0 x1 x2 x3 => loopAt C rec n 64 [1, 1, 1, 1, 0, 1, 0] [] m [(6, SV.home (OV.flat (FV.own (some 2) x0 []))), (25, SV.home (OV.flat (FV.val (PV.sl none x1)))), (26, SV.home (OV.flat (FV.val (PV.int .i64 x2)))), (27, SV.home (OV.flat (FV.val (PV.int .i64 x3))))]) = f64_api_Entry.l1 rec n m := funext fun x0 => funext fun x1 => funext fun x2 => funext fun x3 => f64_api_Entry.l1_eq rec n m x0 x1 x2 x3
    exact (show loopAt C rec n 64 [1, 1, 1, 1, 0, 1, 0] [] (m + 1) [(6, SV.home (OV.flat (FV.own (some 2) x0 []))), (25, SV.home (OV.flat (FV.val (PV.sl none x1)))), (26, SV.home (OV.flat (FV.val (PV.int .i64 x2)))), (27, SV.home (OV.flat (FV.val (PV.int .i64 x3))))] = f64_api_Entry.l1.step rec n (fun x0 x1 x2 x3 => loopAt C rec n 64 [1, 1, 1, 1, 0, 1, 0] [] m [(6, SV.home (OV.flat (FV.own (some 2) x0 []))), (25, SV.home (OV.flat (FV.val (PV.sl none x1)))), (26, SV.home (OV.flat (FV.val (PV.int .i64 x2)))), (27, SV.home (OV.flat (FV.val (PV.int .i64 x3))))]) x0 x1 x2 x3 from by kernel_rfl).trans (by rw [ih]; rfl)

noncomputable def f64_api_Entry.l0.step (rec : Rec) (n : Nat) (l1 : List PV → List PV → Int → Int → Option (List OV × List OV)) (self_l0 : List PV → Int → List PV → Int → Int → Option (List OV × List OV)) (x0 : List PV) (x1 : Int) (x2 : List PV) (x3 : Int) (x4 : Int) : Option (List OV × List OV) :=
  ifB (decide (x4 < x3))
  (needB (decide ((0 : Int) ≤ x4)) <|
  needB (decide (x4 < ((List.length x2 : Nat) : Int))) <|
  needB (hasT Go.Proofs.Try.prog 27 (nthP x2 (Int.toNat x4))) <|
  ifB (decide (IntKind.wrap .i64 (x1 + ((List.length (PV.toL (nthP x2 (Int.toNat x4))) : Nat) : Int)) < (0 : Int)))
  (none)
  (self_l0 x0 (IntKind.wrap .i64 (x1 + ((List.length (PV.toL (nthP x2 (Int.toNat x4))) : Nat) : Int))) x2 x3 (IntKind.wrap .i64 (x4 + (1 : Int)))))
  (callB (rec 68 [OV.flat (FV.own (some 2) [] []), OV.flat (FV.val (PV.int .i64 x1))]) fun r1 => needB (okOs Go.Proofs.Try.prog [27] [.o] (Prod.fst r1)) <|
  l1 (FV.xs (OV.fv (List.headD (Prod.fst r1) (OV.flat FV.gone)))) x0 ((List.length x0 : Nat) : Int) (0 : Int))

noncomputable def f64_api_Entry.l0 (rec : Rec) (n : Nat) : Nat → List PV → Int → List PV → Int → Int → Option (List OV × List OV)
  | 0, _, _, _, _, _ => none
  | m + 1, x0, x1, x2, x3, x4 => f64_api_Entry.l0.step rec n (f64_api_Entry.l1 rec n n) (f64_api_Entry.l0 rec n m) x0 x1 x2 x3 x4

theorem f64_api_Entry.l0_eq (rec : Rec) (n : Nat) : ∀ (m : Nat) (x0 : List PV) (x1 : Int) (x2 : List PV) (x3 : Int) (x4 : Int), loopAt C rec n 64 [1, 1, 0, 1, 0] [] m [(0, SV.home (OV.flat (FV.val (PV.sl none x0)))), (3, SV.home (OV.flat (FV.val (PV.int .i64 x1)))), (9, SV.home (OV.flat (FV.val (PV.sl none x2)))), (10, SV.home (OV.flat (FV.val (PV.int .i64 x3)))), (11, SV.home (OV.flat (FV.val (PV.int .i64 x4))))] = f64_api_Entry.l0 rec n m x0 x1 x2 x3 x4
  | 0, x0, x1, x2, x3, x4 => by kernel_rfl
  | m + 1, x0, x1, x2, x3, x4 => by
    have ih : (fun x0 x1 x2 x3 x4 => loopAt C rec n 64 [1, 1, 0, 1, 0] [] m [(0, SV.home (OV.flat (FV.val (PV.sl none x0)))), (3, SV.home (OV.flat (FV.val (PV.int .i64 x1)))), (9, SV.home (OV.flat (FV.val (PV.sl none x2)))), (10, SV.home (OV.flat (FV.val (PV.int .i64 x3)))), (11, SV.home (OV.flat (FV.val (PV.int .i64 x4))))]) = f64_api_Entry.l0 rec n m := funext fun x0 => funext fun x1 => funext fun x2 => funext fun x3 => funext fun x4 => f64_api_Entry.l0_eq rec n m x0 x1 x2 x3 x4
    have i0 : (fun x0 x1 x2 x3 => loopAt C rec n 64 [1, 1, 1, 1, 0, 1, 0] [] n [(6, SV.home (OV.flat (FV.own (some 2) x0 []))), (25, SV.home (OV.flat (FV.val (PV.sl none x1)))), (26, SV.home (OV.flat (FV.val (PV.int .i64 x2)))), (27, SV.home (OV.flat (FV.val (PV.int .i64 x3))))]) = f64_api_Entry.l1 rec n n := funext fun x0 => funext fun x1 => funext fun x2 => funext fun x3 => f64_api_Entry.l1_eq rec n n x0 x1 x2 x3
    exact (show loopAt C rec n 64 [1, 1, 0, 1, 0] [] (m + 1) [(0, SV.home (OV.flat (FV.val (PV.sl none x0)))), (3, SV.home (OV.flat (FV.val (PV.int .i64 x1)))), (9, SV.home (OV.flat (FV.val (PV.sl none x2)))), (10, SV.home (OV.flat (FV.val (PV.int .i64 x3)))), (11, SV.home (OV.flat (FV.val (PV.int .i64 x4))))] = f64_api_Entry.l0.step rec n (fun x0 x1 x2 x3 => loopAt C rec n 64 [1, 1, 1, 1, 0, 1, 0] [] n [(6, SV.home (OV.flat (FV.own (some 2) x0 []))), (25, SV.home (OV.flat (FV.val (PV.sl none x1)))), (26, SV.home (OV.flat (FV.val (PV.int .i64 x2)))), (27, SV.home (OV.flat (FV.val (PV.int .i64 x3))))]) (fun x0 x1 x2 x3 x4 => loopAt C rec n 64 [1, 1, 0, 1, 0] [] m [(0, SV.home (OV.flat (FV.val (PV.sl none x0)))), (3, SV.home (OV.flat (FV.val (PV.int .i64 x1)))), (9, SV.home (OV.flat (FV.val (PV.sl none x2)))), (10, SV.home (OV.flat (FV.val (PV.int .i64 x3)))), (11, SV.home (OV.flat (FV.val (PV.int .i64 x4))))]) x0 x1 x2 x3 x4 from by kernel_rfl).trans (by rw [i0, ih]; rfl)

noncomputable def f64_api_Entry.pre (rec : Rec) (n : Nat) (l0 : List PV → Int → List PV → Int → Int → Option (List OV × List OV)) (a0 : List PV) : Option (List OV × List OV) :=
  l0 a0 (0 : Int) a0 ((List.length a0 : Nat) : Int) (0 : Int)

noncomputable def f64_api_Entry (rec : Rec) (n : Nat) (a0 : List PV) : Option (List OV × List OV) := f64_api_Entry.pre rec n (f64_api_Entry.l0 rec n n) a0

theorem f64_api_Entry_eq (rec : Rec) (n : Nat) (a0 : List PV) : callBody C rec n 64 [OV.flat (FV.val (PV.sl none a0))] = f64_api_Entry rec n a0 := by
  have i0 : (fun x0 x1 x2 x3 x4 => loopAt C rec n 64 [1, 1, 0, 1, 0] [] n [(0, SV.home (OV.flat (FV.val (PV.sl none x0)))), (3, SV.home (OV.flat (FV.val (PV.int .i64 x1)))), (9, SV.home (OV.flat (FV.val (PV.sl none x2)))), (10, SV.home (OV.flat (FV.val (PV.int .i64 x3)))), (11, SV.home (OV.flat (FV.val (PV.int .i64 x4))))]) = f64_api_Entry.l0 rec n n := funext fun x0 => funext fun x1 => funext fun x2 => funext fun x3 => funext fun x4 => f64_api_Entry.l0_eq rec n n x0 x1 x2 x3 x4
  exact (show callBody C rec n 64 [OV.flat (FV.val (PV.sl none a0))] = f64_api_Entry.pre rec n (fun x0 x1 x2 x3 x4 => loopAt C rec n 64 [1, 1, 0, 1, 0] [] n [(0, SV.home (OV.flat (FV.val (PV.sl none x0)))), (3, SV.home (OV.flat (FV.val (PV.int .i64 x1)))), (9, SV.home (OV.flat (FV.val (PV.sl none x2)))), (10, SV.home (OV.flat (FV.val (PV.int .i64 x3)))), (11, SV.home (OV.flat (FV.val (PV.int .i64 x4))))]) a0 from by kernel_rfl).trans (by rw [i0]; rfl)

noncomputable def f65_btree_page.l1.step (rec : Rec) (n : Nat) (self_l1 : List PV → List PV → Int → Int → Option (List OV × List OV)) (x0 : List PV) (x1 : List PV) (x2 : Int) (x3 : Int) : Option (List OV × List OV) :=
  ifB (decide (x3 < x2))
  (needB (decide ((0 : Int) ≤ x3)) <|
  needB (decide (x3 < ((List.length x1 : Nat) : Int))) <|
  needB (hasT Go.Proofs.Try.prog 61 (nthP x1 (Int.toNat x3))) <|
  needB (Nat.ble ((List.length x0 + List.length (PV.toL (nthP x1 (Int.toNat x3)))) * 8) 140737488355328) <|
  needB (Nat.ble (List.length x0 + List.length (PV.toL (nthP x1 (Int.toNat x3)))) 9223372036854775807) <|
  self_l1 (x0 ++ (PV.toL (nthP x1 (Int.toNat x3)))) x1 x2 (IntKind.wrap .i64 (x3 + (1 : Int))))
  (some ([OV.flat (FV.own none x0 [])], []))

noncomputable def f65_btree_page.l1 (rec : Rec) (n : Nat) : Nat → List PV → List PV → Int → Int → Option (List OV × List OV)
  | 0, _, _, _, _ => none
  | m + 1, x0, x1, x2, x3 => f65_btree_page.l1.step rec n (f65_btree_page.l1 rec n m) x0 x1 x2 x3

theorem f65_btree_page.l1_eq (rec : Rec) (n : Nat) : ∀ (m : Nat) (x0 : List PV) (x1 : List PV) (x2 : Int) (x3 : Int), loopAt C rec n 65 [1, 1, 1, 1, 0, 1, 0] [] m [(6, SV.home (OV.flat (FV.own none x0 []))), (25, SV.home (OV.flat (FV.val (PV.sl none x1)))), (26, SV.home (OV.flat (FV.val (PV.int .i64 x2)))), (27, SV.home (OV.flat (FV.val (PV.int .i64 x3))))] = f65_btree_page.l1 rec n m x0 x1 x2 x3
  | 0, x0, x1, x2, x3 => by kernel_rfl
  | m + 1, x0, x1, x2, x3 => by
    have ih : (fun x0 x1 x2 x3 => loopAt C rec n 65 [1, 1, 1, 1, 0, 1, 0] [] m [(6, SV.home (OV.flat (FV.own none x0 []))), (25, SV.home (OV.flat (FV.val (PV.sl none x1)))), (26, SV.home (OV.flat (FV.val (PV.int .i64 x2)))), (27, SV.home (OV.flat (FV.val (PV.int .i64 x3))))]) = f65_btree_page.l1 rec n m := funext fun x0 => funext fun x1 => funext fun x2 => funext fun x3 => f65_btree_page.l1_eq rec n m x0 x1 x2 x3
    exact (show loopAt C rec n 65 [1, 1, 1, 1, 0, 1, 0] [] (m + 1) [(6, SV.home (OV.flat (FV.own none x0 []))), (25, SV.home (OV.flat (FV.val (PV.sl none x1)))), (26, SV.home (OV.flat (FV.val (PV.int .i64 x2)))), (27, SV.home (OV.flat (FV.val (PV.int .i64 x3))))] = f65_btree_page.l1.step rec n (fun x0 x1 x2 x3 => loopAt C rec n 65 [1, 1, 1, 1, 0, 1, 0] [] m [(6, SV.home (OV.flat (FV.own none x0 []))), (25, SV.home (OV.flat (FV.val (PV.sl none x1)))), (26, SV.home (OV.flat (FV.val (PV.int .i64 x2)))), (27, SV.home (OV.flat (FV.val (PV.int .i64 x3))))]) x0 x1 x2 x3 from by kernel_rfl).trans (by rw [ih]; rfl)

noncomputable def f65_btree_page.l0.step (rec : Rec) (n : Nat) (l1 : List PV → List PV → Int → Int → Option (List OV × List OV)) (self_l0 : List PV → Int → List PV → Int → Int → Option (List OV × List OV)) (x0 : List PV) (x1 : Int) (x2 : List PV) (x3 : Int) (x4 : Int) : Option (List OV × List OV) :=
  ifB (decide (x4 < x3))
  (needB (decide ((0 : Int) ≤ x4)) <|
  needB (decide (x4 < ((List.length x2 : Nat) : Int))) <|
  needB (hasT Go.Proofs.Try.prog 61 (nthP x2 (Int.toNat x4))) <|
  ifB (decide (IntKind.wrap .i64 (x1 + ((List.length (PV.toL (nthP x2 (Int.toNat x4))) : Nat) : Int)) < (0 : Int)))
  (none)
  (self_l0 x0 (IntKind.wrap .i64 (x1 + ((List.length (PV.toL (nthP x2 (Int.toNat x4))) : Nat) : Int))) x2 x3 (IntKind.wrap .i64 (x4 + (1 : Int)))))
  (callB (rec 69 [OV.flat (FV.own none [] []), OV.flat (FV.val (PV.int .i64 x1))]) fun r1 => needB (okOs Go.Proofs.Try.prog [61] [.o] (Prod.fst r1)) <|
  l1 (FV.xs (OV.fv (List.headD (Prod.fst r1) (OV.flat FV.gone)))) x0 ((List.length x0 : Nat) : Int) (0 : Int))

noncomputable def f65_btree_page.l0 (rec : Rec) (n : Nat) : Nat → List PV → Int → List PV → Int → Int → Option (List OV × List OV)
  | 0, _, _, _, _, _ => none
  | m + 1, x0, x1, x2, x3, x4 => f65_btree_page.l0.step rec n (f65_btree_page.l1 rec n n) (f65_btree_page.l0 rec n m) x0 x1 x2 x3 x4

theorem f65_btree_page.l0_eq (rec : Rec) (n : Nat) : ∀ (m : Nat) (x0 : List PV) (x1 : Int) (x2 : List PV) (x3 : Int) (x4 : Int), loopAt C rec n 65 [1, 1, 0, 1, 0] [] m [(0, SV.home (OV.flat (FV.val (PV.sl none x0)))), (3, SV.home (OV.flat (FV.val (PV.int .i64 x1)))), (9, SV.home (OV.flat (FV.val (PV.sl none x2)))), (10, SV.home (OV.flat (FV.val (PV.int .i64 x3)))), (11, SV.home (OV.flat (FV.val (PV.int .i64 x4))))] = f65_btree_page.l0 rec n m x0 x1 x2 x3 x4
  | 0, x0, x1, x2, x3, x4 => by kernel_rfl
  | m + 1, x0, x1, x2, x3, x4 => by
    have ih : (fun x0 x1 x2 x3 x4 => loopAt C rec n 65 [1, 1, 0, 1, 0] [] m [(0, SV.home (OV.flat (FV.val (PV.sl none x0)))), (3, SV.home (OV.flat (FV.val (PV.int .i64 x1)))), (9, SV.home (OV.flat (FV.val (PV.sl none x2)))), (10, SV.home (OV.flat (FV.val (PV.int .i64 x3)))), (11, SV.home (OV.flat (FV.val (PV.int .i64 x4))))]) = f65_btree_page.l0 rec n m := funext fun x0 => funext fun x1 => funext fun x2 => funext fun x3 => funext fun x4 => f65_btree_page.l0_eq rec n m x0 x1 x2 x3 x4
    have i0 : (fun x0 x1 x2 x3 => loopAt C rec n 65 [1, 1, 1, 1, 0, 1, 0] [] n [(6, SV.home (OV.flat (FV.own none x0 []))), (25, SV.home (OV.flat (FV.val (PV.sl none x1)))), (26, SV.home (OV.flat (FV.val (PV.int .i64 x2)))), (27, SV.home (OV.flat (FV.val (PV.int .i64 x3))))]) = f65_btree_page.l1 rec n n := funext fun x0 => funext fun x1 => funext fun x2 => funext fun x3 => f65_btree_page.l1_eq rec n n x0 x1 x2 x3
    exact (show loopAt C rec n 65 [1, 1, 0, 1, 0] [] (m + 1) [(0, SV.home (OV.flat (FV.val (PV.sl none x0)))), (3, SV.home (OV.flat (FV.val (PV.int .i64 x1)))), (9, SV.home (OV.flat (FV.val (PV.sl none x2)))), (10, SV.home (OV.flat (FV.val (PV.int .i64 x3)))), (11, SV.home (OV.flat (FV.val (PV.int .i64 x4))))] = f65_btree_page.l0.step rec n (fun x0 x1 x2 x3 => loopAt C rec n 65 [1, 1, 1, 1, 0, 1, 0] [] n [(6, SV.home (OV.flat (FV.own none x0 []))), (25, SV.home (OV.flat (FV.val (PV.sl none x1)))), (26, SV.home (OV.flat (FV.val (PV.int .i64 x2)))), (27, SV.home (OV.flat (FV.val (PV.int .i64 x3))))]) (fun x0 x1 x2 x3 x4 => loopAt C rec n 65 [1, 1, 0, 1, 0] [] m [(0, SV.home (OV.flat (FV.val (PV.sl none x0)))), (3, SV.home (OV.flat (FV.val (PV.int .i64 x1)))), (9, SV.home (OV.flat (FV.val (PV.sl none x2)))), (10, SV.home (OV.flat (FV.val (PV.int .i64 x3)))), (11, SV.home (OV.flat (FV.val (PV.int .i64 x4))))]) x0 x1 x2 x3 x4 from by kernel_rfl).trans (by rw [i0, ih]; rfl)

noncomputable def f65_btree_page.pre (rec : Rec) (n : Nat) (l0 : List PV → Int → List PV → Int → Int → Option (List OV × List OV)) (a0 : List PV) : Option (List OV × List OV) :=
  l0 a0 (0 : Int) a0 ((List.length a0 : Nat) : Int) (0 : Int)

noncomputable def f65_btree_page (rec : Rec) (n : Nat) (a0 : List PV) : Option (List OV × List OV) := f65_btree_page.pre rec n (f65_btree_page.l0 rec n n) a0

theorem f65_btree_page_eq (rec : Rec) (n : Nat) (a0 : List PV) : callBody C rec n 65 [OV.flat (FV.val (PV.sl none a0))] = f65_btree_page rec n a0 := by
  have i0 : (fun x0 x1 x2 x3 x4 => loopAt C rec n 65 [1, 1, 0, 1, 0] [] n [(0, SV.home (OV.flat (FV.val (PV.sl none x0)))), (3, SV.home (OV.flat (FV.val (PV.int .i64 x1)))), (9, SV.home (OV.flat (FV.val (PV.sl none x2)))), (10, SV.home (OV.flat (FV.val (PV.int .i64 x3)))), (11, SV.home (OV.flat (FV.val (PV.int .i64 x4))))]) = f65_btree_page.l0 rec n n := funext fun x0 => funext fun x1 => funext fun x2 => funext fun x3 => funext fun x4 => f65_btree_page.l0_eq rec n n x0 x1 x2 x3 x4
  exact (show callBody C rec n 65 [OV.flat (FV.val (PV.sl none a0))] = f65_btree_page.pre rec n (fun x0 x1 x2 x3 x4 => loopAt C rec n 65 [1, 1, 0, 1, 0] [] n [(0, SV.home (OV.flat (FV.val (PV.sl none x0)))), (3, SV.home (OV.flat (FV.val (PV.int .i64 x1)))), (9, SV.home (OV.flat (FV.val (PV.sl none x2)))), (10, SV.home (OV.flat (FV.val (PV.int .i64 x3)))), (11, SV.home (OV.flat (FV.val (PV.int .i64 x4))))]) a0 from by kernel_rfl).trans (by rw [i0]; rfl)

end Go.Proofs.Ytnieankaikhmnaa

