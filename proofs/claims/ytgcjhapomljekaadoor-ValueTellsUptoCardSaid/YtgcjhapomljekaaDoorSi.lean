/- What the functions answer, and the laws. -/
import Derived.Test.YtgcjhapomljekaaDoorSh

set_option linter.unusedVariables false

set_option linter.unusedSimpArgs false

set_option linter.unusedSectionVars false

open Go Go.Ev

set_option linter.unusedVariables false

set_option maxRecDepth 100000

namespace Go.Proofs.YtgcjhapomljekaaDoor

noncomputable def f16_vestryref07_Literal.l0.step (rec : Rec) (n : Nat) (self_l0 : Int → Int → List UInt8 → List UInt8 → Int → Option (List OV × List OV)) (x0 : Int) (x1 : Int) (x2 : List UInt8) (x3 : List UInt8) (x4 : Int) : Option (List OV × List OV) :=
  ifB (decide (x4 < ((List.length x2 : Nat) : Int)))
  (needB (decide ((0 : Int) ≤ x4)) <|
  needB (decide (x4 < ((List.length x2 : Nat) : Int))) <|
  ifB (((UInt8.toNat (List.getD x2 (Int.toNat x4) 0) : Nat) : Int) == (39 : Int))
  (needB (Nat.ble (List.length x3 + List.length ([39] : List UInt8)) 9223372036854775807) <|
  needB (decide ((0 : Int) ≤ x4)) <|
  needB (decide (x4 ≤ IntKind.wrap .i64 (x4 + (1 : Int)))) <|
  needB (decide (IntKind.wrap .i64 (x4 + (1 : Int)) ≤ ((List.length x2 : Nat) : Int))) <|
  needB (Nat.ble (List.length (x3 ++ ([39] : List UInt8)) + List.length (List.drop (Int.toNat x4) (List.take (Int.toNat (IntKind.wrap .i64 (x4 + (1 : Int)))) x2))) 9223372036854775807) <|
  self_l0 x0 x1 x2 ((x3 ++ ([39] : List UInt8)) ++ (List.drop (Int.toNat x4) (List.take (Int.toNat (IntKind.wrap .i64 (x4 + (1 : Int)))) x2))) (IntKind.wrap .i64 (x4 + (1 : Int))))
  (needB (decide ((0 : Int) ≤ x4)) <|
  needB (decide (x4 ≤ IntKind.wrap .i64 (x4 + (1 : Int)))) <|
  needB (decide (IntKind.wrap .i64 (x4 + (1 : Int)) ≤ ((List.length x2 : Nat) : Int))) <|
  needB (Nat.ble (List.length x3 + List.length (List.drop (Int.toNat x4) (List.take (Int.toNat (IntKind.wrap .i64 (x4 + (1 : Int)))) x2))) 9223372036854775807) <|
  self_l0 x0 x1 x2 (x3 ++ (List.drop (Int.toNat x4) (List.take (Int.toNat (IntKind.wrap .i64 (x4 + (1 : Int)))) x2))) (IntKind.wrap .i64 (x4 + (1 : Int)))))
  (needB (Nat.ble (List.length x3 + List.length ([39] : List UInt8)) 9223372036854775807) <|
  some ([OV.flat (FV.val (PV.str (x3 ++ ([39] : List UInt8))))], []))

noncomputable def f16_vestryref07_Literal.l0 (rec : Rec) (n : Nat) : Nat → Int → Int → List UInt8 → List UInt8 → Int → Option (List OV × List OV)
  | 0, _, _, _, _, _ => none
  | m + 1, x0, x1, x2, x3, x4 => f16_vestryref07_Literal.l0.step rec n (f16_vestryref07_Literal.l0 rec n m) x0 x1 x2 x3 x4

theorem f16_vestryref07_Literal.l0_eq (rec : Rec) (n : Nat) : ∀ (m : Nat) (x0 : Int) (x1 : Int) (x2 : List UInt8) (x3 : List UInt8) (x4 : Int), loopAt C rec n 16 [1, 1, 1, 1, 0, 1, 0] [] m [(1, SV.home (OV.cont .box [FV.val (PV.int .i64 x0), FV.val (PV.int .i64 x1), FV.val (PV.str x2)])), (3, SV.home (OV.flat (FV.val (PV.str x3)))), (4, SV.home (OV.flat (FV.val (PV.int .i64 x4))))] = f16_vestryref07_Literal.l0 rec n m x0 x1 x2 x3 x4
  | 0, x0, x1, x2, x3, x4 => by kernel_rfl
  | m + 1, x0, x1, x2, x3, x4 => by
    have ih : (fun x0 x1 x2 x3 x4 => loopAt C rec n 16 [1, 1, 1, 1, 0, 1, 0] [] m [(1, SV.home (OV.cont .box [FV.val (PV.int .i64 x0), FV.val (PV.int .i64 x1), FV.val (PV.str x2)])), (3, SV.home (OV.flat (FV.val (PV.str x3)))), (4, SV.home (OV.flat (FV.val (PV.int .i64 x4))))]) = f16_vestryref07_Literal.l0 rec n m := funext fun x0 => funext fun x1 => funext fun x2 => funext fun x3 => funext fun x4 => f16_vestryref07_Literal.l0_eq rec n m x0 x1 x2 x3 x4
    exact (show loopAt C rec n 16 [1, 1, 1, 1, 0, 1, 0] [] (m + 1) [(1, SV.home (OV.cont .box [FV.val (PV.int .i64 x0), FV.val (PV.int .i64 x1), FV.val (PV.str x2)])), (3, SV.home (OV.flat (FV.val (PV.str x3)))), (4, SV.home (OV.flat (FV.val (PV.int .i64 x4))))] = f16_vestryref07_Literal.l0.step rec n (fun x0 x1 x2 x3 x4 => loopAt C rec n 16 [1, 1, 1, 1, 0, 1, 0] [] m [(1, SV.home (OV.cont .box [FV.val (PV.int .i64 x0), FV.val (PV.int .i64 x1), FV.val (PV.str x2)])), (3, SV.home (OV.flat (FV.val (PV.str x3)))), (4, SV.home (OV.flat (FV.val (PV.int .i64 x4))))]) x0 x1 x2 x3 x4 from by kernel_rfl).trans (by rw [ih]; rfl)

noncomputable def f16_vestryref07_Literal.pre (rec : Rec) (n : Nat) (l0 : Int → Int → List UInt8 → List UInt8 → Int → Option (List OV × List OV)) (a0 : Int) (a1 : Int) (a2 : List UInt8) : Option (List OV × List OV) :=
  ifB (a0 == (1 : Int))
  (callB (rec 37 [OV.flat (FV.val (PV.int .i64 a1))]) fun r1 => needB (okOs Go.Proofs.Tryd.prog [9] [] (Prod.fst r1)) <|
  some ([OV.flat (FV.val (PV.str (PV.toS (FV.pv (OV.fv (List.headD (Prod.fst r1) (OV.flat FV.gone)))))))], []))
  (ifB (a0 != (2 : Int))
  (some ([OV.flat (FV.val (PV.str ([78, 85, 76, 76] : List UInt8)))], []))
  (l0 a0 a1 a2 ([39] : List UInt8) (0 : Int)))

noncomputable def f16_vestryref07_Literal (rec : Rec) (n : Nat) (a0 : Int) (a1 : Int) (a2 : List UInt8) : Option (List OV × List OV) := f16_vestryref07_Literal.pre rec n (f16_vestryref07_Literal.l0 rec n n) a0 a1 a2

theorem f16_vestryref07_Literal_eq (rec : Rec) (n : Nat) (a0 : Int) (a1 : Int) (a2 : List UInt8) : callBody C rec n 16 [OV.flat (FV.val (PV.agg [PV.int .i64 a0, PV.int .i64 a1, PV.str a2]))] = f16_vestryref07_Literal rec n a0 a1 a2 := by
  have i0 : (fun x0 x1 x2 x3 x4 => loopAt C rec n 16 [1, 1, 1, 1, 0, 1, 0] [] n [(1, SV.home (OV.cont .box [FV.val (PV.int .i64 x0), FV.val (PV.int .i64 x1), FV.val (PV.str x2)])), (3, SV.home (OV.flat (FV.val (PV.str x3)))), (4, SV.home (OV.flat (FV.val (PV.int .i64 x4))))]) = f16_vestryref07_Literal.l0 rec n n := funext fun x0 => funext fun x1 => funext fun x2 => funext fun x3 => funext fun x4 => f16_vestryref07_Literal.l0_eq rec n n x0 x1 x2 x3 x4
  exact (show callBody C rec n 16 [OV.flat (FV.val (PV.agg [PV.int .i64 a0, PV.int .i64 a1, PV.str a2]))] = f16_vestryref07_Literal.pre rec n (fun x0 x1 x2 x3 x4 => loopAt C rec n 16 [1, 1, 1, 1, 0, 1, 0] [] n [(1, SV.home (OV.cont .box [FV.val (PV.int .i64 x0), FV.val (PV.int .i64 x1), FV.val (PV.str x2)])), (3, SV.home (OV.flat (FV.val (PV.str x3)))), (4, SV.home (OV.flat (FV.val (PV.int .i64 x4))))]) a0 a1 a2 from by kernel_rfl).trans (by rw [i0]; rfl)

noncomputable def f37_vestryref07_Number (rec : Rec) (n : Nat) (a0 : Int) : Option (List OV × List OV) :=
  ifB (decide (a0 ≥ (0 : Int)))
  (callB (rec 50 [OV.flat (FV.val (PV.int .i64 a0))]) fun r1 => needB (okOs Go.Proofs.Tryd.prog [9] [] (Prod.fst r1)) <|
  some ([OV.flat (FV.val (PV.str (PV.toS (FV.pv (OV.fv (List.headD (Prod.fst r1) (OV.flat FV.gone)))))))], []))
  (ifB (decide (a0 > (-10 : Int)))
  (callB (rec 50 [OV.flat (FV.val (PV.int .i64 (IntKind.wrap .i64 ((0 : Int) - a0))))]) fun r2 => needB (okOs Go.Proofs.Tryd.prog [9] [] (Prod.fst r2)) <|
  needB (Nat.ble (List.length ([45] : List UInt8) + List.length (PV.toS (FV.pv (OV.fv (List.headD (Prod.fst r2) (OV.flat FV.gone)))))) 9223372036854775807) <|
  some ([OV.flat (FV.val (PV.str (([45] : List UInt8) ++ (PV.toS (FV.pv (OV.fv (List.headD (Prod.fst r2) (OV.flat FV.gone))))))))], []))
  (callB (rec 50 [OV.flat (FV.val (PV.int .i64 (IntKind.wrap .i64 ((0 : Int) - IntKind.wrap .i64 (Int.tdiv a0 (10 : Int))))))]) fun r3 => needB (okOs Go.Proofs.Tryd.prog [9] [] (Prod.fst r3)) <|
  needB (Nat.ble (List.length ([45] : List UInt8) + List.length (PV.toS (FV.pv (OV.fv (List.headD (Prod.fst r3) (OV.flat FV.gone)))))) 9223372036854775807) <|
  callB (rec 50 [OV.flat (FV.val (PV.int .i64 (IntKind.wrap .i64 ((0 : Int) - Int.tmod a0 (10 : Int)))))]) fun r4 => needB (okOs Go.Proofs.Tryd.prog [9] [] (Prod.fst r4)) <|
  needB (Nat.ble (List.length (([45] : List UInt8) ++ (PV.toS (FV.pv (OV.fv (List.headD (Prod.fst r3) (OV.flat FV.gone)))))) + List.length (PV.toS (FV.pv (OV.fv (List.headD (Prod.fst r4) (OV.flat FV.gone)))))) 9223372036854775807) <|
  some ([OV.flat (FV.val (PV.str ((([45] : List UInt8) ++ (PV.toS (FV.pv (OV.fv (List.headD (Prod.fst r3) (OV.flat FV.gone)))))) ++ (PV.toS (FV.pv (OV.fv (List.headD (Prod.fst r4) (OV.flat FV.gone))))))))], [])))

theorem f37_vestryref07_Number_eq (rec : Rec) (n : Nat) (a0 : Int) : callBody C rec n 37 [OV.flat (FV.val (PV.int .i64 a0))] = f37_vestryref07_Number rec n a0 := by kernel_rfl

noncomputable def f50_vestryref07_digits (rec : Rec) (n : Nat) (a0 : Int) : Option (List OV × List OV) :=
  ifB (decide (a0 < (10 : Int)))
  (needB (List.all [PV.int .u8 (IntKind.wrap .u8 (IntKind.wrap .i64 ((48 : Int) + a0)))] isByte) <|
  some ([OV.flat (FV.val (PV.str (List.map u8Of [PV.int .u8 (IntKind.wrap .u8 (IntKind.wrap .i64 ((48 : Int) + a0)))])))], []))
  (callB (rec 50 [OV.flat (FV.val (PV.int .i64 (IntKind.wrap .i64 (Int.tdiv a0 (10 : Int)))))]) fun r1 => needB (okOs Go.Proofs.Tryd.prog [9] [] (Prod.fst r1)) <|
  needB (List.all [PV.int .u8 (IntKind.wrap .u8 (IntKind.wrap .i64 ((48 : Int) + Int.tmod a0 (10 : Int))))] isByte) <|
  needB (Nat.ble (List.length (PV.toS (FV.pv (OV.fv (List.headD (Prod.fst r1) (OV.flat FV.gone))))) + List.length (List.map u8Of [PV.int .u8 (IntKind.wrap .u8 (IntKind.wrap .i64 ((48 : Int) + Int.tmod a0 (10 : Int))))])) 9223372036854775807) <|
  some ([OV.flat (FV.val (PV.str ((PV.toS (FV.pv (OV.fv (List.headD (Prod.fst r1) (OV.flat FV.gone))))) ++ (List.map u8Of [PV.int .u8 (IntKind.wrap .u8 (IntKind.wrap .i64 ((48 : Int) + Int.tmod a0 (10 : Int))))]))))], []))

theorem f50_vestryref07_digits_eq (rec : Rec) (n : Nat) (a0 : Int) : callBody C rec n 50 [OV.flat (FV.val (PV.int .i64 a0))] = f50_vestryref07_digits rec n a0 := by kernel_rfl

end Go.Proofs.YtgcjhapomljekaaDoor

