/- What the functions answer, and the laws. -/
import Derived.Test.YthkmnomnfmjffaaDoorCtx

set_option linter.unusedVariables false

set_option linter.unusedSimpArgs false

set_option linter.unusedSectionVars false

open Go Go.Ev

set_option linter.unusedVariables false

set_option maxRecDepth 100000

namespace Go.Proofs.YthkmnomnfmjffaaDoor

noncomputable def f3_vestrylaw01_PlainOrders (rec : Rec) (n : Nat) (a0 : Int) (a1 : Int) (a2 : List UInt8) (a3 : List UInt8) (a4 : List PV) (a5 : List PV) : Option (List OV × List OV) :=
  callB (rec 6 []) fun r1 => needB (okOs Go.Proofs.Tryd.prog [4] [] (Prod.fst r1)) <|
  ifB (decide (((List.length a2 : Nat) : Int) > (65536 : Int)))
  (some ([OV.flat (FV.val (PV.bool (PV.toB (FV.pv (OV.fv (List.headD (Prod.fst r1) (OV.flat FV.gone)))))))], []))
  (ifB (decide (((List.length a3 : Nat) : Int) > (65536 : Int)))
  (some ([OV.flat (FV.val (PV.bool (PV.toB (FV.pv (OV.fv (List.headD (Prod.fst r1) (OV.flat FV.gone)))))))], []))
  (ifB (decide (((List.length a4 : Nat) : Int) > (65536 : Int)))
  (some ([OV.flat (FV.val (PV.bool (PV.toB (FV.pv (OV.fv (List.headD (Prod.fst r1) (OV.flat FV.gone)))))))], []))
  (ifB (decide (((List.length a5 : Nat) : Int) > (65536 : Int)))
  (some ([OV.flat (FV.val (PV.bool (PV.toB (FV.pv (OV.fv (List.headD (Prod.fst r1) (OV.flat FV.gone)))))))], []))
  (callB (rec 7 [OV.flat (FV.val (PV.int .i64 a0))]) fun r2 => needB (okOs Go.Proofs.Tryd.prog [22] [.o] (Prod.fst r2)) <|
  needB (List.all (FV.xs (OV.fv (List.headD (Prod.fst r2) (OV.flat FV.gone)))) isByte) <|
  needB (List.all a4 isByte) <|
  needB (Nat.ble (List.length (List.map u8Of (FV.xs (OV.fv (List.headD (Prod.fst r2) (OV.flat FV.gone))))) + List.length (List.map u8Of a4)) 9223372036854775807) <|
  callB (rec 7 [OV.flat (FV.val (PV.int .i64 a1))]) fun r3 => needB (okOs Go.Proofs.Tryd.prog [22] [.o] (Prod.fst r3)) <|
  needB (List.all (FV.xs (OV.fv (List.headD (Prod.fst r3) (OV.flat FV.gone)))) isByte) <|
  needB (List.all a5 isByte) <|
  needB (Nat.ble (List.length (List.map u8Of (FV.xs (OV.fv (List.headD (Prod.fst r3) (OV.flat FV.gone))))) + List.length (List.map u8Of a5)) 9223372036854775807) <|
  ifB (a0 == a1)
  (callB (rec 8 [OV.flat (FV.val (PV.str a2))]) fun r4 => needB (okOs Go.Proofs.Tryd.prog [22] [.o] (Prod.fst r4)) <|
  needB (List.all (FV.xs (OV.fv (List.headD (Prod.fst r4) (OV.flat FV.gone)))) isByte) <|
  needB (List.all a4 isByte) <|
  needB (Nat.ble (List.length (List.map u8Of (FV.xs (OV.fv (List.headD (Prod.fst r4) (OV.flat FV.gone))))) + List.length (List.map u8Of a4)) 9223372036854775807) <|
  callB (rec 8 [OV.flat (FV.val (PV.str a3))]) fun r5 => needB (okOs Go.Proofs.Tryd.prog [22] [.o] (Prod.fst r5)) <|
  needB (List.all (FV.xs (OV.fv (List.headD (Prod.fst r5) (OV.flat FV.gone)))) isByte) <|
  needB (List.all a5 isByte) <|
  needB (Nat.ble (List.length (List.map u8Of (FV.xs (OV.fv (List.headD (Prod.fst r5) (OV.flat FV.gone))))) + List.length (List.map u8Of a5)) 9223372036854775807) <|
  ifB (a2 == a3)
  (callB (rec 8 [OV.flat (FV.val (PV.str a2))]) fun r6 => needB (okOs Go.Proofs.Tryd.prog [22] [.o] (Prod.fst r6)) <|
  needB (List.all (FV.xs (OV.fv (List.headD (Prod.fst r6) (OV.flat FV.gone)))) isByte) <|
  callB (rec 8 [OV.flat (FV.val (PV.str a3))]) fun r7 => needB (okOs Go.Proofs.Tryd.prog [22] [.o] (Prod.fst r7)) <|
  needB (List.all (FV.xs (OV.fv (List.headD (Prod.fst r7) (OV.flat FV.gone)))) isByte) <|
  ifB (decide (((List.length (List.map u8Of (FV.xs (OV.fv (List.headD (Prod.fst r6) (OV.flat FV.gone))))) : Nat) : Int) ≤ ((List.length (List.map u8Of (FV.xs (OV.fv (List.headD (Prod.fst r7) (OV.flat FV.gone))))) : Nat) : Int)))
  (needB (decide ((0 : Int) ≤ ((List.length (List.map u8Of (FV.xs (OV.fv (List.headD (Prod.fst r6) (OV.flat FV.gone))))) : Nat) : Int))) <|
  needB (decide (((List.length (List.map u8Of (FV.xs (OV.fv (List.headD (Prod.fst r6) (OV.flat FV.gone))))) : Nat) : Int) ≤ ((List.length (List.map u8Of (FV.xs (OV.fv (List.headD (Prod.fst r7) (OV.flat FV.gone))))) : Nat) : Int))) <|
  ifB (PV.toB (FV.pv (OV.fv (List.headD (Prod.fst r1) (OV.flat FV.gone)))))
  (some ([OV.flat (FV.val (PV.bool (((List.take (Int.toNat ((List.length (List.map u8Of (FV.xs (OV.fv (List.headD (Prod.fst r6) (OV.flat FV.gone))))) : Nat) : Int)) (List.map u8Of (FV.xs (OV.fv (List.headD (Prod.fst r7) (OV.flat FV.gone)))))) == (List.map u8Of (FV.xs (OV.fv (List.headD (Prod.fst r6) (OV.flat FV.gone)))))) == (a2 == a3))))], []))
  (some ([OV.flat (FV.val (PV.bool false))], [])))
  (ifB (PV.toB (FV.pv (OV.fv (List.headD (Prod.fst r1) (OV.flat FV.gone)))))
  (some ([OV.flat (FV.val (PV.bool (false == (a2 == a3))))], []))
  (some ([OV.flat (FV.val (PV.bool false))], []))))
  (callB (rec 8 [OV.flat (FV.val (PV.str a2))]) fun r8 => needB (okOs Go.Proofs.Tryd.prog [22] [.o] (Prod.fst r8)) <|
  needB (List.all (FV.xs (OV.fv (List.headD (Prod.fst r8) (OV.flat FV.gone)))) isByte) <|
  callB (rec 8 [OV.flat (FV.val (PV.str a3))]) fun r9 => needB (okOs Go.Proofs.Tryd.prog [22] [.o] (Prod.fst r9)) <|
  needB (List.all (FV.xs (OV.fv (List.headD (Prod.fst r9) (OV.flat FV.gone)))) isByte) <|
  ifB (decide (((List.length (List.map u8Of (FV.xs (OV.fv (List.headD (Prod.fst r8) (OV.flat FV.gone))))) : Nat) : Int) ≤ ((List.length (List.map u8Of (FV.xs (OV.fv (List.headD (Prod.fst r9) (OV.flat FV.gone))))) : Nat) : Int)))
  (needB (decide ((0 : Int) ≤ ((List.length (List.map u8Of (FV.xs (OV.fv (List.headD (Prod.fst r8) (OV.flat FV.gone))))) : Nat) : Int))) <|
  needB (decide (((List.length (List.map u8Of (FV.xs (OV.fv (List.headD (Prod.fst r8) (OV.flat FV.gone))))) : Nat) : Int) ≤ ((List.length (List.map u8Of (FV.xs (OV.fv (List.headD (Prod.fst r9) (OV.flat FV.gone))))) : Nat) : Int))) <|
  ifB (PV.toB (FV.pv (OV.fv (List.headD (Prod.fst r1) (OV.flat FV.gone)))))
  (ifB ((Op.bytesLess ((List.map u8Of (FV.xs (OV.fv (List.headD (Prod.fst r4) (OV.flat FV.gone))))) ++ (List.map u8Of a4)) ((List.map u8Of (FV.xs (OV.fv (List.headD (Prod.fst r5) (OV.flat FV.gone))))) ++ (List.map u8Of a5))) == (Op.bytesLess a2 a3))
  (some ([OV.flat (FV.val (PV.bool (((List.take (Int.toNat ((List.length (List.map u8Of (FV.xs (OV.fv (List.headD (Prod.fst r8) (OV.flat FV.gone))))) : Nat) : Int)) (List.map u8Of (FV.xs (OV.fv (List.headD (Prod.fst r9) (OV.flat FV.gone)))))) == (List.map u8Of (FV.xs (OV.fv (List.headD (Prod.fst r8) (OV.flat FV.gone)))))) == (a2 == a3))))], []))
  (some ([OV.flat (FV.val (PV.bool false))], [])))
  (some ([OV.flat (FV.val (PV.bool false))], [])))
  (ifB (PV.toB (FV.pv (OV.fv (List.headD (Prod.fst r1) (OV.flat FV.gone)))))
  (ifB ((Op.bytesLess ((List.map u8Of (FV.xs (OV.fv (List.headD (Prod.fst r4) (OV.flat FV.gone))))) ++ (List.map u8Of a4)) ((List.map u8Of (FV.xs (OV.fv (List.headD (Prod.fst r5) (OV.flat FV.gone))))) ++ (List.map u8Of a5))) == (Op.bytesLess a2 a3))
  (some ([OV.flat (FV.val (PV.bool (false == (a2 == a3))))], []))
  (some ([OV.flat (FV.val (PV.bool false))], [])))
  (some ([OV.flat (FV.val (PV.bool false))], [])))))
  (callB (rec 8 [OV.flat (FV.val (PV.str a2))]) fun r10 => needB (okOs Go.Proofs.Tryd.prog [22] [.o] (Prod.fst r10)) <|
  needB (List.all (FV.xs (OV.fv (List.headD (Prod.fst r10) (OV.flat FV.gone)))) isByte) <|
  needB (List.all a4 isByte) <|
  needB (Nat.ble (List.length (List.map u8Of (FV.xs (OV.fv (List.headD (Prod.fst r10) (OV.flat FV.gone))))) + List.length (List.map u8Of a4)) 9223372036854775807) <|
  callB (rec 8 [OV.flat (FV.val (PV.str a3))]) fun r11 => needB (okOs Go.Proofs.Tryd.prog [22] [.o] (Prod.fst r11)) <|
  needB (List.all (FV.xs (OV.fv (List.headD (Prod.fst r11) (OV.flat FV.gone)))) isByte) <|
  needB (List.all a5 isByte) <|
  needB (Nat.ble (List.length (List.map u8Of (FV.xs (OV.fv (List.headD (Prod.fst r11) (OV.flat FV.gone))))) + List.length (List.map u8Of a5)) 9223372036854775807) <|
  ifB (a2 == a3)
  (callB (rec 8 [OV.flat (FV.val (PV.str a2))]) fun r12 => needB (okOs Go.Proofs.Tryd.prog [22] [.o] (Prod.fst r12)) <|
  needB (List.all (FV.xs (OV.fv (List.headD (Prod.fst r12) (OV.flat FV.gone)))) isByte) <|
  callB (rec 8 [OV.flat (FV.val (PV.str a3))]) fun r13 => needB (okOs Go.Proofs.Tryd.prog [22] [.o] (Prod.fst r13)) <|
  needB (List.all (FV.xs (OV.fv (List.headD (Prod.fst r13) (OV.flat FV.gone)))) isByte) <|
  ifB (decide (((List.length (List.map u8Of (FV.xs (OV.fv (List.headD (Prod.fst r12) (OV.flat FV.gone))))) : Nat) : Int) ≤ ((List.length (List.map u8Of (FV.xs (OV.fv (List.headD (Prod.fst r13) (OV.flat FV.gone))))) : Nat) : Int)))
  (needB (decide ((0 : Int) ≤ ((List.length (List.map u8Of (FV.xs (OV.fv (List.headD (Prod.fst r12) (OV.flat FV.gone))))) : Nat) : Int))) <|
  needB (decide (((List.length (List.map u8Of (FV.xs (OV.fv (List.headD (Prod.fst r12) (OV.flat FV.gone))))) : Nat) : Int) ≤ ((List.length (List.map u8Of (FV.xs (OV.fv (List.headD (Prod.fst r13) (OV.flat FV.gone))))) : Nat) : Int))) <|
  ifB (PV.toB (FV.pv (OV.fv (List.headD (Prod.fst r1) (OV.flat FV.gone)))))
  (ifB ((Op.bytesLess ((List.map u8Of (FV.xs (OV.fv (List.headD (Prod.fst r2) (OV.flat FV.gone))))) ++ (List.map u8Of a4)) ((List.map u8Of (FV.xs (OV.fv (List.headD (Prod.fst r3) (OV.flat FV.gone))))) ++ (List.map u8Of a5))) == (decide (a0 < a1)))
  (some ([OV.flat (FV.val (PV.bool (((List.take (Int.toNat ((List.length (List.map u8Of (FV.xs (OV.fv (List.headD (Prod.fst r12) (OV.flat FV.gone))))) : Nat) : Int)) (List.map u8Of (FV.xs (OV.fv (List.headD (Prod.fst r13) (OV.flat FV.gone)))))) == (List.map u8Of (FV.xs (OV.fv (List.headD (Prod.fst r12) (OV.flat FV.gone)))))) == (a2 == a3))))], []))
  (some ([OV.flat (FV.val (PV.bool false))], [])))
  (some ([OV.flat (FV.val (PV.bool false))], [])))
  (ifB (PV.toB (FV.pv (OV.fv (List.headD (Prod.fst r1) (OV.flat FV.gone)))))
  (ifB ((Op.bytesLess ((List.map u8Of (FV.xs (OV.fv (List.headD (Prod.fst r2) (OV.flat FV.gone))))) ++ (List.map u8Of a4)) ((List.map u8Of (FV.xs (OV.fv (List.headD (Prod.fst r3) (OV.flat FV.gone))))) ++ (List.map u8Of a5))) == (decide (a0 < a1)))
  (some ([OV.flat (FV.val (PV.bool (false == (a2 == a3))))], []))
  (some ([OV.flat (FV.val (PV.bool false))], [])))
  (some ([OV.flat (FV.val (PV.bool false))], []))))
  (callB (rec 8 [OV.flat (FV.val (PV.str a2))]) fun r14 => needB (okOs Go.Proofs.Tryd.prog [22] [.o] (Prod.fst r14)) <|
  needB (List.all (FV.xs (OV.fv (List.headD (Prod.fst r14) (OV.flat FV.gone)))) isByte) <|
  callB (rec 8 [OV.flat (FV.val (PV.str a3))]) fun r15 => needB (okOs Go.Proofs.Tryd.prog [22] [.o] (Prod.fst r15)) <|
  needB (List.all (FV.xs (OV.fv (List.headD (Prod.fst r15) (OV.flat FV.gone)))) isByte) <|
  ifB (decide (((List.length (List.map u8Of (FV.xs (OV.fv (List.headD (Prod.fst r14) (OV.flat FV.gone))))) : Nat) : Int) ≤ ((List.length (List.map u8Of (FV.xs (OV.fv (List.headD (Prod.fst r15) (OV.flat FV.gone))))) : Nat) : Int)))
  (needB (decide ((0 : Int) ≤ ((List.length (List.map u8Of (FV.xs (OV.fv (List.headD (Prod.fst r14) (OV.flat FV.gone))))) : Nat) : Int))) <|
  needB (decide (((List.length (List.map u8Of (FV.xs (OV.fv (List.headD (Prod.fst r14) (OV.flat FV.gone))))) : Nat) : Int) ≤ ((List.length (List.map u8Of (FV.xs (OV.fv (List.headD (Prod.fst r15) (OV.flat FV.gone))))) : Nat) : Int))) <|
  ifB (PV.toB (FV.pv (OV.fv (List.headD (Prod.fst r1) (OV.flat FV.gone)))))
  (ifB ((Op.bytesLess ((List.map u8Of (FV.xs (OV.fv (List.headD (Prod.fst r2) (OV.flat FV.gone))))) ++ (List.map u8Of a4)) ((List.map u8Of (FV.xs (OV.fv (List.headD (Prod.fst r3) (OV.flat FV.gone))))) ++ (List.map u8Of a5))) == (decide (a0 < a1)))
  (ifB ((Op.bytesLess ((List.map u8Of (FV.xs (OV.fv (List.headD (Prod.fst r10) (OV.flat FV.gone))))) ++ (List.map u8Of a4)) ((List.map u8Of (FV.xs (OV.fv (List.headD (Prod.fst r11) (OV.flat FV.gone))))) ++ (List.map u8Of a5))) == (Op.bytesLess a2 a3))
  (some ([OV.flat (FV.val (PV.bool (((List.take (Int.toNat ((List.length (List.map u8Of (FV.xs (OV.fv (List.headD (Prod.fst r14) (OV.flat FV.gone))))) : Nat) : Int)) (List.map u8Of (FV.xs (OV.fv (List.headD (Prod.fst r15) (OV.flat FV.gone)))))) == (List.map u8Of (FV.xs (OV.fv (List.headD (Prod.fst r14) (OV.flat FV.gone)))))) == (a2 == a3))))], []))
  (some ([OV.flat (FV.val (PV.bool false))], [])))
  (some ([OV.flat (FV.val (PV.bool false))], [])))
  (some ([OV.flat (FV.val (PV.bool false))], [])))
  (ifB (PV.toB (FV.pv (OV.fv (List.headD (Prod.fst r1) (OV.flat FV.gone)))))
  (ifB ((Op.bytesLess ((List.map u8Of (FV.xs (OV.fv (List.headD (Prod.fst r2) (OV.flat FV.gone))))) ++ (List.map u8Of a4)) ((List.map u8Of (FV.xs (OV.fv (List.headD (Prod.fst r3) (OV.flat FV.gone))))) ++ (List.map u8Of a5))) == (decide (a0 < a1)))
  (ifB ((Op.bytesLess ((List.map u8Of (FV.xs (OV.fv (List.headD (Prod.fst r10) (OV.flat FV.gone))))) ++ (List.map u8Of a4)) ((List.map u8Of (FV.xs (OV.fv (List.headD (Prod.fst r11) (OV.flat FV.gone))))) ++ (List.map u8Of a5))) == (Op.bytesLess a2 a3))
  (some ([OV.flat (FV.val (PV.bool (false == (a2 == a3))))], []))
  (some ([OV.flat (FV.val (PV.bool false))], [])))
  (some ([OV.flat (FV.val (PV.bool false))], [])))
  (some ([OV.flat (FV.val (PV.bool false))], [])))))))))

theorem f3_vestrylaw01_PlainOrders_eq (rec : Rec) (n : Nat) (a0 : Int) (a1 : Int) (a2 : List UInt8) (a3 : List UInt8) (a4 : List PV) (a5 : List PV) : callBody C rec n 3 [OV.flat (FV.val (PV.int .i64 a0)), OV.flat (FV.val (PV.int .i64 a1)), OV.flat (FV.val (PV.str a2)), OV.flat (FV.val (PV.str a3)), OV.flat (FV.val (PV.sl none a4)), OV.flat (FV.val (PV.sl none a5))] = f3_vestrylaw01_PlainOrders rec n a0 a1 a2 a3 a4 a5 := by kernel_rfl

noncomputable def f4_vestrylaw01_PlainTexts (rec : Rec) (n : Nat) (a0 : List UInt8) (a1 : List PV) : Option (List OV × List OV) :=
  callB (rec 6 []) fun r1 => needB (okOs Go.Proofs.Tryd.prog [4] [] (Prod.fst r1)) <|
  callB (rec 9 [OV.flat (FV.val (PV.sl none a1))]) fun r2 => needB (okOs Go.Proofs.Tryd.prog [22] [.os] (Prod.fst r2)) <|
  callB (rec 8 [OV.flat (FV.val (PV.str a0))]) fun r3 => needB (okOs Go.Proofs.Tryd.prog [22] [.o] (Prod.fst r3)) <|
  callB (rec 10 [OV.flat (FV.val (PV.sl none (FV.xs (OV.fv (List.headD (Prod.fst r2) (OV.flat FV.gone))))))]) fun r4 => needB (okOs Go.Proofs.Tryd.prog [9, 3, 28] [] (Prod.fst r4)) <|
  callB (rec 11 [OV.flat (FV.val (PV.sl none a1))]) fun r5 => needB (okOs Go.Proofs.Tryd.prog [9, 3, 28] [] (Prod.fst r5)) <|
  callB (rec 12 [OV.flat (FV.own none (FV.xs (OV.fv (List.headD (Prod.fst r2) (OV.flat FV.gone)))) (FV.sp (OV.fv (List.headD (Prod.fst r2) (OV.flat FV.gone))))), OV.flat (FV.val (PV.sl none a1))]) fun r6 => needB (okOs Go.Proofs.Tryd.prog [4] [] (Prod.fst r6)) <|
  needB (okOuts Go.Proofs.Tryd.prog [22, 22] [.io .os, .ro] (Prod.snd r6)) <|
  needB (List.all (FV.xs (OV.fv (List.headD (Prod.fst r3) (OV.flat FV.gone)))) isByte) <|
  callB (rec 13 [OV.flat (FV.val (PV.str a0))]) fun r7 => needB (okOs Go.Proofs.Tryd.prog [22] [.o] (Prod.fst r7)) <|
  needB (List.all (FV.xs (OV.fv (List.headD (Prod.fst r7) (OV.flat FV.gone)))) isByte) <|
  callB (rec 14 [OV.cont .nest [FV.own none (FV.xs (OV.fv (List.headD (Prod.fst r3) (OV.flat FV.gone)))) [], FV.own none (FV.xs (OV.fv (List.headD (Prod.snd r6) (OV.flat FV.gone)))) (FV.sp (OV.fv (List.headD (Prod.snd r6) (OV.flat FV.gone))))]]) fun r8 => needB (okOs Go.Proofs.Tryd.prog [4] [] (Prod.fst r8)) <|
  ifB (PV.toB (FV.pv (OV.fv (List.headD (Prod.fst r1) (OV.flat FV.gone)))))
  (ifB (PV.toB (FV.pv (OV.fv (List.headD (Prod.fst r6) (OV.flat FV.gone)))))
  (ifB ((List.map u8Of (FV.xs (OV.fv (List.headD (Prod.fst r3) (OV.flat FV.gone))))) == (List.map u8Of (FV.xs (OV.fv (List.headD (Prod.fst r7) (OV.flat FV.gone))))))
  (ifB (PV.toB (FV.pv (OV.fv (List.headD (Prod.fst r8) (OV.flat FV.gone)))))
  (ifB ((PV.toS (FV.pv (OV.fv (List.headD (Prod.fst r4) (OV.flat FV.gone))))) == (PV.toS (FV.pv (OV.fv (List.headD (Prod.fst r5) (OV.flat FV.gone))))))
  (ifB (PV.toI (FV.pv (OV.fv (List.headD (List.tail (Prod.fst r4)) (OV.flat FV.gone)))) == PV.toI (FV.pv (OV.fv (List.headD (List.tail (Prod.fst r5)) (OV.flat FV.gone)))))
  (some ([OV.flat (FV.val (PV.bool (PV.toI (FV.pv (OV.fv (List.headD (List.tail (List.tail (Prod.fst r4))) (OV.flat FV.gone)))) == PV.toI (FV.pv (OV.fv (List.headD (List.tail (List.tail (Prod.fst r5))) (OV.flat FV.gone)))))))], []))
  (some ([OV.flat (FV.val (PV.bool false))], [])))
  (some ([OV.flat (FV.val (PV.bool false))], [])))
  (some ([OV.flat (FV.val (PV.bool false))], [])))
  (some ([OV.flat (FV.val (PV.bool false))], [])))
  (some ([OV.flat (FV.val (PV.bool false))], [])))
  (some ([OV.flat (FV.val (PV.bool false))], []))

theorem f4_vestrylaw01_PlainTexts_eq (rec : Rec) (n : Nat) (a0 : List UInt8) (a1 : List PV) : callBody C rec n 4 [OV.flat (FV.val (PV.str a0)), OV.flat (FV.val (PV.sl none a1))] = f4_vestrylaw01_PlainTexts rec n a0 a1 := by kernel_rfl

noncomputable def f5_vestrylaw01_PlainBack (rec : Rec) (n : Nat) (a0 : Int) (a1 : List UInt8) (a2 : List PV) (a3 : List PV) : Option (List OV × List OV) :=
  callB (rec 6 []) fun r1 => needB (okOs Go.Proofs.Tryd.prog [4] [] (Prod.fst r1)) <|
  ifB (decide (((List.length a3 : Nat) : Int) > (1048576 : Int)))
  (some ([OV.flat (FV.val (PV.bool (PV.toB (FV.pv (OV.fv (List.headD (Prod.fst r1) (OV.flat FV.gone)))))))], []))
  (ifB (decide (((List.length a1 : Nat) : Int) > (1048576 : Int)))
  (some ([OV.flat (FV.val (PV.bool (PV.toB (FV.pv (OV.fv (List.headD (Prod.fst r1) (OV.flat FV.gone)))))))], []))
  (callB (rec 16 [OV.flat (FV.val (PV.int .i64 a0))]) fun r2 => needB (okOs Go.Proofs.Tryd.prog [22] [.o] (Prod.fst r2)) <|
  needB (Nat.ble ((List.length (FV.xs (OV.fv (List.headD (Prod.fst r2) (OV.flat FV.gone)))) + List.length a3) * 1) 140737488355328) <|
  needB (Nat.ble (List.length (FV.xs (OV.fv (List.headD (Prod.fst r2) (OV.flat FV.gone)))) + List.length a3) 9223372036854775807) <|
  callB (rec 15 [OV.flat (FV.val (PV.sl none ((FV.xs (OV.fv (List.headD (Prod.fst r2) (OV.flat FV.gone)))) ++ a3)))]) fun r3 => needB (okOs Go.Proofs.Tryd.prog [3, 3, 28] [] (Prod.fst r3)) <|
  callB (rec 7 [OV.flat (FV.val (PV.int .i64 a0))]) fun r4 => needB (okOs Go.Proofs.Tryd.prog [22] [.o] (Prod.fst r4)) <|
  needB (Nat.ble ((List.length (FV.xs (OV.fv (List.headD (Prod.fst r4) (OV.flat FV.gone)))) + List.length a3) * 1) 140737488355328) <|
  needB (Nat.ble (List.length (FV.xs (OV.fv (List.headD (Prod.fst r4) (OV.flat FV.gone)))) + List.length a3) 9223372036854775807) <|
  callB (rec 17 [OV.flat (FV.val (PV.sl none ((FV.xs (OV.fv (List.headD (Prod.fst r4) (OV.flat FV.gone)))) ++ a3)))]) fun r5 => needB (okOs Go.Proofs.Tryd.prog [3, 3, 28] [] (Prod.fst r5)) <|
  callB (rec 8 [OV.flat (FV.val (PV.str a1))]) fun r6 => needB (okOs Go.Proofs.Tryd.prog [22] [.o] (Prod.fst r6)) <|
  needB (Nat.ble ((List.length (FV.xs (OV.fv (List.headD (Prod.fst r6) (OV.flat FV.gone)))) + List.length a3) * 1) 140737488355328) <|
  needB (Nat.ble (List.length (FV.xs (OV.fv (List.headD (Prod.fst r6) (OV.flat FV.gone)))) + List.length a3) 9223372036854775807) <|
  callB (rec 10 [OV.flat (FV.val (PV.sl none ((FV.xs (OV.fv (List.headD (Prod.fst r6) (OV.flat FV.gone)))) ++ a3)))]) fun r7 => needB (okOs Go.Proofs.Tryd.prog [9, 3, 28] [] (Prod.fst r7)) <|
  ifB (PV.toI (FV.pv (OV.fv (List.headD (List.tail (List.tail (Prod.fst r3))) (OV.flat FV.gone)))) != (0 : Int))
  (some ([OV.flat (FV.val (PV.bool false))], []))
  (ifB (PV.toI (FV.pv (OV.fv (List.headD (List.tail (List.tail (Prod.fst r5))) (OV.flat FV.gone)))) != (0 : Int))
  (some ([OV.flat (FV.val (PV.bool false))], []))
  (ifB (PV.toI (FV.pv (OV.fv (List.headD (List.tail (List.tail (Prod.fst r7))) (OV.flat FV.gone)))) != (0 : Int))
  (some ([OV.flat (FV.val (PV.bool false))], []))
  (ifB (PV.toI (FV.pv (OV.fv (List.headD (Prod.fst r3) (OV.flat FV.gone)))) != a0)
  (some ([OV.flat (FV.val (PV.bool false))], []))
  (ifB (PV.toI (FV.pv (OV.fv (List.headD (Prod.fst r5) (OV.flat FV.gone)))) != a0)
  (some ([OV.flat (FV.val (PV.bool false))], []))
  (ifB (!((PV.toS (FV.pv (OV.fv (List.headD (Prod.fst r7) (OV.flat FV.gone))))) == a1))
  (some ([OV.flat (FV.val (PV.bool false))], []))
  (ifB (PV.toI (FV.pv (OV.fv (List.headD (List.tail (Prod.fst r3)) (OV.flat FV.gone)))) != (8 : Int))
  (some ([OV.flat (FV.val (PV.bool false))], []))
  (ifB (PV.toI (FV.pv (OV.fv (List.headD (List.tail (Prod.fst r5)) (OV.flat FV.gone)))) != (8 : Int))
  (some ([OV.flat (FV.val (PV.bool false))], []))
  (callB (rec 8 [OV.flat (FV.val (PV.str a1))]) fun r8 => needB (okOs Go.Proofs.Tryd.prog [22] [.o] (Prod.fst r8)) <|
  ifB (PV.toI (FV.pv (OV.fv (List.headD (List.tail (Prod.fst r7)) (OV.flat FV.gone)))) != ((List.length (FV.xs (OV.fv (List.headD (Prod.fst r8) (OV.flat FV.gone)))) : Nat) : Int))
  (some ([OV.flat (FV.val (PV.bool false))], []))
  (callB (rec 18 [OV.flat (FV.val (PV.sl none a2))]) fun r9 => needB (okOs Go.Proofs.Tryd.prog [22, 28] [.o, .v] (Prod.fst r9)) <|
  ifB (PV.toI (FV.pv (OV.fv (List.headD (List.tail (Prod.fst r9)) (OV.flat FV.gone)))) == (0 : Int))
  (needB (Nat.ble ((List.length ([] : List PV) + List.length (FV.xs (OV.fv (List.headD (Prod.fst r9) (OV.flat FV.gone))))) * 1) 140737488355328) <|
  needB (Nat.ble (List.length ([] : List PV) + List.length (FV.xs (OV.fv (List.headD (Prod.fst r9) (OV.flat FV.gone))))) 9223372036854775807) <|
  needB (Nat.ble ((List.length ([] ++ (FV.xs (OV.fv (List.headD (Prod.fst r9) (OV.flat FV.gone))))) + List.length a3) * 1) 140737488355328) <|
  needB (Nat.ble (List.length ([] ++ (FV.xs (OV.fv (List.headD (Prod.fst r9) (OV.flat FV.gone))))) + List.length a3) 9223372036854775807) <|
  callB (rec 19 [OV.flat (FV.val (PV.sl none (([] ++ (FV.xs (OV.fv (List.headD (Prod.fst r9) (OV.flat FV.gone))))) ++ a3)))]) fun r10 => needB (okOs Go.Proofs.Tryd.prog [33, 3, 28] [.v, .v, .v] (Prod.fst r10)) <|
  ifB (PV.toI (FV.pv (OV.fv (List.headD (List.tail (List.tail (Prod.fst r10))) (OV.flat FV.gone)))) != (0 : Int))
  (some ([OV.flat (FV.val (PV.bool false))], []))
  (ifB (PV.toI (FV.pv (OV.fv (List.headD (List.tail (Prod.fst r10)) (OV.flat FV.gone)))) != ((List.length (FV.xs (OV.fv (List.headD (Prod.fst r9) (OV.flat FV.gone)))) : Nat) : Int))
  (some ([OV.flat (FV.val (PV.bool false))], []))
  (callB (rec 20 [OV.flat (FV.val (PV.sl none (PV.toL (FV.pv (OV.fv (List.headD (Prod.fst r10) (OV.flat FV.gone))))))), OV.flat (FV.val (PV.sl none a2))]) fun r11 => needB (okOs Go.Proofs.Tryd.prog [4] [] (Prod.fst r11)) <|
  ifB (!(PV.toB (FV.pv (OV.fv (List.headD (Prod.fst r11) (OV.flat FV.gone))))))
  (some ([OV.flat (FV.val (PV.bool false))], []))
  (callB (rec 19 [OV.flat (FV.val (PV.sl none a3))]) fun r12 => needB (okOs Go.Proofs.Tryd.prog [33, 3, 28] [.v, .v, .v] (Prod.fst r12)) <|
  ifB (PV.toI (FV.pv (OV.fv (List.headD (List.tail (List.tail (Prod.fst r12))) (OV.flat FV.gone)))) == (0 : Int))
  (callB (rec 18 [OV.flat (FV.val (PV.sl none (PV.toL (FV.pv (OV.fv (List.headD (Prod.fst r12) (OV.flat FV.gone)))))))]) fun r13 => needB (okOs Go.Proofs.Tryd.prog [22, 28] [.o, .v] (Prod.fst r13)) <|
  ifB (PV.toI (FV.pv (OV.fv (List.headD (List.tail (Prod.fst r13)) (OV.flat FV.gone)))) != (0 : Int))
  (some ([OV.flat (FV.val (PV.bool false))], []))
  (ifB (decide (PV.toI (FV.pv (OV.fv (List.headD (List.tail (Prod.fst r12)) (OV.flat FV.gone)))) > ((List.length a3 : Nat) : Int)))
  (some ([OV.flat (FV.val (PV.bool false))], []))
  (needB (List.all (FV.xs (OV.fv (List.headD (Prod.fst r13) (OV.flat FV.gone)))) isByte) <|
  needB (decide ((0 : Int) ≤ PV.toI (FV.pv (OV.fv (List.headD (List.tail (Prod.fst r12)) (OV.flat FV.gone)))))) <|
  needB (decide (PV.toI (FV.pv (OV.fv (List.headD (List.tail (Prod.fst r12)) (OV.flat FV.gone)))) ≤ ((List.length a3 : Nat) : Int))) <|
  needB (List.all (List.take (Int.toNat (PV.toI (FV.pv (OV.fv (List.headD (List.tail (Prod.fst r12)) (OV.flat FV.gone)))))) a3) isByte) <|
  ifB (!((List.map u8Of (FV.xs (OV.fv (List.headD (Prod.fst r13) (OV.flat FV.gone))))) == (List.map u8Of (List.take (Int.toNat (PV.toI (FV.pv (OV.fv (List.headD (List.tail (Prod.fst r12)) (OV.flat FV.gone)))))) a3))))
  (some ([OV.flat (FV.val (PV.bool false))], []))
  (callB (rec 10 [OV.flat (FV.val (PV.sl none a3))]) fun r14 => needB (okOs Go.Proofs.Tryd.prog [9, 3, 28] [] (Prod.fst r14)) <|
  ifB (PV.toB (FV.pv (OV.fv (List.headD (Prod.fst r1) (OV.flat FV.gone)))))
  (ifB (PV.toI (FV.pv (OV.fv (List.headD (List.tail (List.tail (Prod.fst r14))) (OV.flat FV.gone)))) != (0 : Int))
  (some ([OV.flat (FV.val (PV.bool true))], []))
  (ifB (decide (PV.toI (FV.pv (OV.fv (List.headD (List.tail (Prod.fst r14)) (OV.flat FV.gone)))) ≤ ((List.length a3 : Nat) : Int)))
  (callB (rec 8 [OV.flat (FV.val (PV.str (PV.toS (FV.pv (OV.fv (List.headD (Prod.fst r14) (OV.flat FV.gone)))))))]) fun r15 => needB (okOs Go.Proofs.Tryd.prog [22] [.o] (Prod.fst r15)) <|
  needB (List.all (FV.xs (OV.fv (List.headD (Prod.fst r15) (OV.flat FV.gone)))) isByte) <|
  needB (decide ((0 : Int) ≤ PV.toI (FV.pv (OV.fv (List.headD (List.tail (Prod.fst r14)) (OV.flat FV.gone)))))) <|
  needB (decide (PV.toI (FV.pv (OV.fv (List.headD (List.tail (Prod.fst r14)) (OV.flat FV.gone)))) ≤ ((List.length a3 : Nat) : Int))) <|
  needB (List.all (List.take (Int.toNat (PV.toI (FV.pv (OV.fv (List.headD (List.tail (Prod.fst r14)) (OV.flat FV.gone)))))) a3) isByte) <|
  some ([OV.flat (FV.val (PV.bool ((List.map u8Of (FV.xs (OV.fv (List.headD (Prod.fst r15) (OV.flat FV.gone))))) == (List.map u8Of (List.take (Int.toNat (PV.toI (FV.pv (OV.fv (List.headD (List.tail (Prod.fst r14)) (OV.flat FV.gone)))))) a3)))))], []))
  (some ([OV.flat (FV.val (PV.bool false))], []))))
  (some ([OV.flat (FV.val (PV.bool false))], []))))))
  (callB (rec 10 [OV.flat (FV.val (PV.sl none a3))]) fun r16 => needB (okOs Go.Proofs.Tryd.prog [9, 3, 28] [] (Prod.fst r16)) <|
  ifB (PV.toB (FV.pv (OV.fv (List.headD (Prod.fst r1) (OV.flat FV.gone)))))
  (ifB (PV.toI (FV.pv (OV.fv (List.headD (List.tail (List.tail (Prod.fst r16))) (OV.flat FV.gone)))) != (0 : Int))
  (some ([OV.flat (FV.val (PV.bool true))], []))
  (ifB (decide (PV.toI (FV.pv (OV.fv (List.headD (List.tail (Prod.fst r16)) (OV.flat FV.gone)))) ≤ ((List.length a3 : Nat) : Int)))
  (callB (rec 8 [OV.flat (FV.val (PV.str (PV.toS (FV.pv (OV.fv (List.headD (Prod.fst r16) (OV.flat FV.gone)))))))]) fun r17 => needB (okOs Go.Proofs.Tryd.prog [22] [.o] (Prod.fst r17)) <|
  needB (List.all (FV.xs (OV.fv (List.headD (Prod.fst r17) (OV.flat FV.gone)))) isByte) <|
  needB (decide ((0 : Int) ≤ PV.toI (FV.pv (OV.fv (List.headD (List.tail (Prod.fst r16)) (OV.flat FV.gone)))))) <|
  needB (decide (PV.toI (FV.pv (OV.fv (List.headD (List.tail (Prod.fst r16)) (OV.flat FV.gone)))) ≤ ((List.length a3 : Nat) : Int))) <|
  needB (List.all (List.take (Int.toNat (PV.toI (FV.pv (OV.fv (List.headD (List.tail (Prod.fst r16)) (OV.flat FV.gone)))))) a3) isByte) <|
  some ([OV.flat (FV.val (PV.bool ((List.map u8Of (FV.xs (OV.fv (List.headD (Prod.fst r17) (OV.flat FV.gone))))) == (List.map u8Of (List.take (Int.toNat (PV.toI (FV.pv (OV.fv (List.headD (List.tail (Prod.fst r16)) (OV.flat FV.gone)))))) a3)))))], []))
  (some ([OV.flat (FV.val (PV.bool false))], []))))
  (some ([OV.flat (FV.val (PV.bool false))], [])))))))
  (callB (rec 19 [OV.flat (FV.val (PV.sl none a3))]) fun r18 => needB (okOs Go.Proofs.Tryd.prog [33, 3, 28] [.v, .v, .v] (Prod.fst r18)) <|
  ifB (PV.toI (FV.pv (OV.fv (List.headD (List.tail (List.tail (Prod.fst r18))) (OV.flat FV.gone)))) == (0 : Int))
  (callB (rec 18 [OV.flat (FV.val (PV.sl none (PV.toL (FV.pv (OV.fv (List.headD (Prod.fst r18) (OV.flat FV.gone)))))))]) fun r19 => needB (okOs Go.Proofs.Tryd.prog [22, 28] [.o, .v] (Prod.fst r19)) <|
  ifB (PV.toI (FV.pv (OV.fv (List.headD (List.tail (Prod.fst r19)) (OV.flat FV.gone)))) != (0 : Int))
  (some ([OV.flat (FV.val (PV.bool false))], []))
  (ifB (decide (PV.toI (FV.pv (OV.fv (List.headD (List.tail (Prod.fst r18)) (OV.flat FV.gone)))) > ((List.length a3 : Nat) : Int)))
  (some ([OV.flat (FV.val (PV.bool false))], []))
  (needB (List.all (FV.xs (OV.fv (List.headD (Prod.fst r19) (OV.flat FV.gone)))) isByte) <|
  needB (decide ((0 : Int) ≤ PV.toI (FV.pv (OV.fv (List.headD (List.tail (Prod.fst r18)) (OV.flat FV.gone)))))) <|
  needB (decide (PV.toI (FV.pv (OV.fv (List.headD (List.tail (Prod.fst r18)) (OV.flat FV.gone)))) ≤ ((List.length a3 : Nat) : Int))) <|
  needB (List.all (List.take (Int.toNat (PV.toI (FV.pv (OV.fv (List.headD (List.tail (Prod.fst r18)) (OV.flat FV.gone)))))) a3) isByte) <|
  ifB (!((List.map u8Of (FV.xs (OV.fv (List.headD (Prod.fst r19) (OV.flat FV.gone))))) == (List.map u8Of (List.take (Int.toNat (PV.toI (FV.pv (OV.fv (List.headD (List.tail (Prod.fst r18)) (OV.flat FV.gone)))))) a3))))
  (some ([OV.flat (FV.val (PV.bool false))], []))
  (callB (rec 10 [OV.flat (FV.val (PV.sl none a3))]) fun r20 => needB (okOs Go.Proofs.Tryd.prog [9, 3, 28] [] (Prod.fst r20)) <|
  ifB (PV.toB (FV.pv (OV.fv (List.headD (Prod.fst r1) (OV.flat FV.gone)))))
  (ifB (PV.toI (FV.pv (OV.fv (List.headD (List.tail (List.tail (Prod.fst r20))) (OV.flat FV.gone)))) != (0 : Int))
  (some ([OV.flat (FV.val (PV.bool true))], []))
  (ifB (decide (PV.toI (FV.pv (OV.fv (List.headD (List.tail (Prod.fst r20)) (OV.flat FV.gone)))) ≤ ((List.length a3 : Nat) : Int)))
  (callB (rec 8 [OV.flat (FV.val (PV.str (PV.toS (FV.pv (OV.fv (List.headD (Prod.fst r20) (OV.flat FV.gone)))))))]) fun r21 => needB (okOs Go.Proofs.Tryd.prog [22] [.o] (Prod.fst r21)) <|
  needB (List.all (FV.xs (OV.fv (List.headD (Prod.fst r21) (OV.flat FV.gone)))) isByte) <|
  needB (decide ((0 : Int) ≤ PV.toI (FV.pv (OV.fv (List.headD (List.tail (Prod.fst r20)) (OV.flat FV.gone)))))) <|
  needB (decide (PV.toI (FV.pv (OV.fv (List.headD (List.tail (Prod.fst r20)) (OV.flat FV.gone)))) ≤ ((List.length a3 : Nat) : Int))) <|
  needB (List.all (List.take (Int.toNat (PV.toI (FV.pv (OV.fv (List.headD (List.tail (Prod.fst r20)) (OV.flat FV.gone)))))) a3) isByte) <|
  some ([OV.flat (FV.val (PV.bool ((List.map u8Of (FV.xs (OV.fv (List.headD (Prod.fst r21) (OV.flat FV.gone))))) == (List.map u8Of (List.take (Int.toNat (PV.toI (FV.pv (OV.fv (List.headD (List.tail (Prod.fst r20)) (OV.flat FV.gone)))))) a3)))))], []))
  (some ([OV.flat (FV.val (PV.bool false))], []))))
  (some ([OV.flat (FV.val (PV.bool false))], []))))))
  (callB (rec 10 [OV.flat (FV.val (PV.sl none a3))]) fun r22 => needB (okOs Go.Proofs.Tryd.prog [9, 3, 28] [] (Prod.fst r22)) <|
  ifB (PV.toB (FV.pv (OV.fv (List.headD (Prod.fst r1) (OV.flat FV.gone)))))
  (ifB (PV.toI (FV.pv (OV.fv (List.headD (List.tail (List.tail (Prod.fst r22))) (OV.flat FV.gone)))) != (0 : Int))
  (some ([OV.flat (FV.val (PV.bool true))], []))
  (ifB (decide (PV.toI (FV.pv (OV.fv (List.headD (List.tail (Prod.fst r22)) (OV.flat FV.gone)))) ≤ ((List.length a3 : Nat) : Int)))
  (callB (rec 8 [OV.flat (FV.val (PV.str (PV.toS (FV.pv (OV.fv (List.headD (Prod.fst r22) (OV.flat FV.gone)))))))]) fun r23 => needB (okOs Go.Proofs.Tryd.prog [22] [.o] (Prod.fst r23)) <|
  needB (List.all (FV.xs (OV.fv (List.headD (Prod.fst r23) (OV.flat FV.gone)))) isByte) <|
  needB (decide ((0 : Int) ≤ PV.toI (FV.pv (OV.fv (List.headD (List.tail (Prod.fst r22)) (OV.flat FV.gone)))))) <|
  needB (decide (PV.toI (FV.pv (OV.fv (List.headD (List.tail (Prod.fst r22)) (OV.flat FV.gone)))) ≤ ((List.length a3 : Nat) : Int))) <|
  needB (List.all (List.take (Int.toNat (PV.toI (FV.pv (OV.fv (List.headD (List.tail (Prod.fst r22)) (OV.flat FV.gone)))))) a3) isByte) <|
  some ([OV.flat (FV.val (PV.bool ((List.map u8Of (FV.xs (OV.fv (List.headD (Prod.fst r23) (OV.flat FV.gone))))) == (List.map u8Of (List.take (Int.toNat (PV.toI (FV.pv (OV.fv (List.headD (List.tail (Prod.fst r22)) (OV.flat FV.gone)))))) a3)))))], []))
  (some ([OV.flat (FV.val (PV.bool false))], []))))
  (some ([OV.flat (FV.val (PV.bool false))], [])))))))))))))))

theorem f5_vestrylaw01_PlainBack_eq (rec : Rec) (n : Nat) (a0 : Int) (a1 : List UInt8) (a2 : List PV) (a3 : List PV) : callBody C rec n 5 [OV.flat (FV.val (PV.int .i64 a0)), OV.flat (FV.val (PV.str a1)), OV.flat (FV.val (PV.sl none a2)), OV.flat (FV.val (PV.sl none a3))] = f5_vestrylaw01_PlainBack rec n a0 a1 a2 a3 := by kernel_rfl

noncomputable def f6_vestrylaw01_small (rec : Rec) (n : Nat)  : Option (List OV × List OV) :=
  needB (Nat.blt 0 (List.length [PV.int .u8 (97 : Int)])) <|
  callB (rec 18 [OV.flat (FV.val (PV.sl none [PV.sl none [PV.int .u8 (97 : Int)], PV.sl none []]))]) fun r1 => needB (okOs Go.Proofs.Tryd.prog [22, 28] [.o, .v] (Prod.fst r1)) <|
  needB (Nat.ble ((List.length ([] : List PV) + List.length (FV.xs (OV.fv (List.headD (Prod.fst r1) (OV.flat FV.gone))))) * 1) 140737488355328) <|
  needB (Nat.ble (List.length ([] : List PV) + List.length (FV.xs (OV.fv (List.headD (Prod.fst r1) (OV.flat FV.gone))))) 9223372036854775807) <|
  needB (Nat.ble ((List.length ([] ++ (FV.xs (OV.fv (List.headD (Prod.fst r1) (OV.flat FV.gone))))) + List.length [PV.int .u8 (9 : Int)]) * 1) 140737488355328) <|
  needB (Nat.ble (List.length ([] ++ (FV.xs (OV.fv (List.headD (Prod.fst r1) (OV.flat FV.gone))))) + List.length [PV.int .u8 (9 : Int)]) 9223372036854775807) <|
  callB (rec 19 [OV.flat (FV.val (PV.sl none (([] ++ (FV.xs (OV.fv (List.headD (Prod.fst r1) (OV.flat FV.gone))))) ++ [PV.int .u8 (9 : Int)])))]) fun r2 => needB (okOs Go.Proofs.Tryd.prog [33, 3, 28] [.v, .v, .v] (Prod.fst r2)) <|
  ifB (PV.toI (FV.pv (OV.fv (List.headD (List.tail (Prod.fst r1)) (OV.flat FV.gone)))) == (0 : Int))
  (needB (List.all (FV.xs (OV.fv (List.headD (Prod.fst r1) (OV.flat FV.gone)))) isByte) <|
  ifB ((List.map u8Of (FV.xs (OV.fv (List.headD (Prod.fst r1) (OV.flat FV.gone))))) == ([0, 0, 0, 2, 0, 0, 0, 1, 97, 0, 0, 0, 0] : List UInt8))
  (ifB (PV.toI (FV.pv (OV.fv (List.headD (List.tail (List.tail (Prod.fst r2))) (OV.flat FV.gone)))) == (0 : Int))
  (ifB (PV.toI (FV.pv (OV.fv (List.headD (List.tail (Prod.fst r2)) (OV.flat FV.gone)))) == (13 : Int))
  (ifB (((List.length (PV.toL (FV.pv (OV.fv (List.headD (Prod.fst r2) (OV.flat FV.gone))))) : Nat) : Int) == (2 : Int))
  (callB (rec 16 [OV.flat (FV.val (PV.int .i64 (258 : Int)))]) fun r3 => needB (okOs Go.Proofs.Tryd.prog [22] [.o] (Prod.fst r3)) <|
  needB (List.all (FV.xs (OV.fv (List.headD (Prod.fst r3) (OV.flat FV.gone)))) isByte) <|
  some ([OV.flat (FV.val (PV.bool ((List.map u8Of (FV.xs (OV.fv (List.headD (Prod.fst r3) (OV.flat FV.gone))))) == ([0, 0, 0, 0, 0, 0, 1, 2] : List UInt8))))], []))
  (some ([OV.flat (FV.val (PV.bool false))], [])))
  (some ([OV.flat (FV.val (PV.bool false))], [])))
  (some ([OV.flat (FV.val (PV.bool false))], [])))
  (some ([OV.flat (FV.val (PV.bool false))], [])))
  (some ([OV.flat (FV.val (PV.bool false))], []))

theorem f6_vestrylaw01_small_eq (rec : Rec) (n : Nat)  : callBody C rec n 6 [] = f6_vestrylaw01_small rec n  := by kernel_rfl

noncomputable def f7_plain_NumKey (rec : Rec) (n : Nat) (a0 : Int) : Option (List OV × List OV) :=
  callB (rec 16 [OV.flat (FV.val (PV.int .i64 a0))]) fun r1 => needB (okOs Go.Proofs.Tryd.prog [22] [.o] (Prod.fst r1)) <|
  needB (decide ((0 : Int) < ((List.length (FV.xs (OV.fv (List.headD (Prod.fst r1) (OV.flat FV.gone)))) : Nat) : Int))) <|
  needB (Nat.blt 0 (List.length (FV.xs (OV.fv (List.headD (Prod.fst r1) (OV.flat FV.gone)))))) <|
  needB (hasT Go.Proofs.Tryd.prog 5 (nthP (FV.xs (OV.fv (List.headD (Prod.fst r1) (OV.flat FV.gone)))) 0)) <|
  needB (decide ((0 : Int) < ((List.length (FV.xs (OV.fv (List.headD (Prod.fst r1) (OV.flat FV.gone)))) : Nat) : Int))) <|
  needB (Nat.blt 0 (List.length (FV.xs (OV.fv (List.headD (Prod.fst r1) (OV.flat FV.gone)))))) <|
  some ([OV.flat (FV.own none (List.set (FV.xs (OV.fv (List.headD (Prod.fst r1) (OV.flat FV.gone)))) 0 (PV.int .u8 (IntKind.wrap .u8 (((BitVec.toNat ((BitVec.ofInt (IntKind.bits .u8) (PV.toI (nthP (FV.xs (OV.fv (List.headD (Prod.fst r1) (OV.flat FV.gone)))) 0))) ^^^ (BitVec.ofInt (IntKind.bits .u8) (128 : Int))) : Nat) : Int))))) [])], [])

theorem f7_plain_NumKey_eq (rec : Rec) (n : Nat) (a0 : Int) : callBody C rec n 7 [OV.flat (FV.val (PV.int .i64 a0))] = f7_plain_NumKey rec n a0 := by kernel_rfl

noncomputable def f8_plain_TextKey (rec : Rec) (n : Nat) (a0 : List UInt8) : Option (List OV × List OV) :=
  needB (Nat.ble (List.length a0) 9223372036854775807) <|
  callB (rec 21 [OV.flat (FV.val (PV.sl none (List.map pvByte a0))), OV.flat (FV.val (PV.sl none [PV.int .u8 (0 : Int)])), OV.flat (FV.val (PV.sl none [PV.int .u8 (0 : Int), PV.int .u8 (255 : Int)]))]) fun r1 => needB (okOs Go.Proofs.Tryd.prog [22] [.o] (Prod.fst r1)) <|
  needB (Nat.ble ((List.length (FV.xs (OV.fv (List.headD (Prod.fst r1) (OV.flat FV.gone)))) + List.length [PV.int .u8 (0 : Int), PV.int .u8 (0 : Int)]) * 1) 140737488355328) <|
  needB (Nat.ble (List.length (FV.xs (OV.fv (List.headD (Prod.fst r1) (OV.flat FV.gone)))) + List.length [PV.int .u8 (0 : Int), PV.int .u8 (0 : Int)]) 9223372036854775807) <|
  some ([OV.flat (FV.own none ((FV.xs (OV.fv (List.headD (Prod.fst r1) (OV.flat FV.gone)))) ++ [PV.int .u8 (0 : Int), PV.int .u8 (0 : Int)]) [])], [])

theorem f8_plain_TextKey_eq (rec : Rec) (n : Nat) (a0 : List UInt8) : callBody C rec n 8 [OV.flat (FV.val (PV.str a0))] = f8_plain_TextKey rec n a0 := by kernel_rfl

noncomputable def f10_plain_TakeTextKey.l0.step (rec : Rec) (n : Nat) (self_l0 : List PV → List PV → Int → Option (List OV × List OV)) (x0 : List PV) (x1 : List PV) (x2 : Int) : Option (List OV × List OV) :=
  ifB (decide (x2 < ((List.length x0 : Nat) : Int)))
  (needB (decide ((0 : Int) ≤ x2)) <|
  needB (decide (x2 ≤ ((List.length x0 : Nat) : Int))) <|
  callB (rec 22 [OV.flat (FV.val (PV.sl none (List.drop (Int.toNat x2) x0))), OV.flat (FV.val (PV.int .u8 (0 : Int)))]) fun r1 => needB (okOs Go.Proofs.Tryd.prog [3] [] (Prod.fst r1)) <|
  ifB (decide (PV.toI (FV.pv (OV.fv (List.headD (Prod.fst r1) (OV.flat FV.gone)))) < (0 : Int)))
  (some ([OV.flat (FV.val (PV.str ([] : List UInt8))), OV.flat (FV.val (PV.int .i64 (0 : Int))), OV.flat (FV.val (PV.int .i64 (3 : Int)))], []))
  (ifB (IntKind.wrap .i64 (IntKind.wrap .i64 (x2 + PV.toI (FV.pv (OV.fv (List.headD (Prod.fst r1) (OV.flat FV.gone))))) + (1 : Int)) == ((List.length x0 : Nat) : Int))
  (some ([OV.flat (FV.val (PV.str ([] : List UInt8))), OV.flat (FV.val (PV.int .i64 (0 : Int))), OV.flat (FV.val (PV.int .i64 (3 : Int)))], []))
  (needB (decide ((0 : Int) ≤ x2)) <|
  needB (decide (x2 ≤ IntKind.wrap .i64 (x2 + PV.toI (FV.pv (OV.fv (List.headD (Prod.fst r1) (OV.flat FV.gone))))))) <|
  needB (decide (IntKind.wrap .i64 (x2 + PV.toI (FV.pv (OV.fv (List.headD (Prod.fst r1) (OV.flat FV.gone))))) ≤ ((List.length x0 : Nat) : Int))) <|
  needB (Nat.ble ((List.length x1 + List.length (List.drop (Int.toNat x2) (List.take (Int.toNat (IntKind.wrap .i64 (x2 + PV.toI (FV.pv (OV.fv (List.headD (Prod.fst r1) (OV.flat FV.gone))))))) x0))) * 1) 140737488355328) <|
  needB (Nat.ble (List.length x1 + List.length (List.drop (Int.toNat x2) (List.take (Int.toNat (IntKind.wrap .i64 (x2 + PV.toI (FV.pv (OV.fv (List.headD (Prod.fst r1) (OV.flat FV.gone))))))) x0))) 9223372036854775807) <|
  needB (decide ((0 : Int) ≤ IntKind.wrap .i64 (IntKind.wrap .i64 (x2 + IntKind.wrap .i64 (PV.toI (FV.pv (OV.fv (List.headD (Prod.fst r1) (OV.flat FV.gone)))) + (2 : Int))) - (1 : Int)))) <|
  needB (decide (IntKind.wrap .i64 (IntKind.wrap .i64 (x2 + IntKind.wrap .i64 (PV.toI (FV.pv (OV.fv (List.headD (Prod.fst r1) (OV.flat FV.gone)))) + (2 : Int))) - (1 : Int)) < ((List.length x0 : Nat) : Int))) <|
  needB (hasT Go.Proofs.Tryd.prog 5 (nthP x0 (Int.toNat (IntKind.wrap .i64 (IntKind.wrap .i64 (x2 + IntKind.wrap .i64 (PV.toI (FV.pv (OV.fv (List.headD (Prod.fst r1) (OV.flat FV.gone)))) + (2 : Int))) - (1 : Int)))))) <|
  ifB (PV.toI (nthP x0 (Int.toNat (IntKind.wrap .i64 (IntKind.wrap .i64 (x2 + IntKind.wrap .i64 (PV.toI (FV.pv (OV.fv (List.headD (Prod.fst r1) (OV.flat FV.gone)))) + (2 : Int))) - (1 : Int))))) == (0 : Int))
  (needB (List.all (x1 ++ (List.drop (Int.toNat x2) (List.take (Int.toNat (IntKind.wrap .i64 (x2 + PV.toI (FV.pv (OV.fv (List.headD (Prod.fst r1) (OV.flat FV.gone))))))) x0))) isByte) <|
  some ([OV.flat (FV.val (PV.str (List.map u8Of (x1 ++ (List.drop (Int.toNat x2) (List.take (Int.toNat (IntKind.wrap .i64 (x2 + PV.toI (FV.pv (OV.fv (List.headD (Prod.fst r1) (OV.flat FV.gone))))))) x0)))))), OV.flat (FV.val (PV.int .i64 (IntKind.wrap .i64 (x2 + IntKind.wrap .i64 (PV.toI (FV.pv (OV.fv (List.headD (Prod.fst r1) (OV.flat FV.gone)))) + (2 : Int)))))), OV.flat (FV.val (PV.int .i64 (0 : Int)))], []))
  (ifB (PV.toI (nthP x0 (Int.toNat (IntKind.wrap .i64 (IntKind.wrap .i64 (x2 + IntKind.wrap .i64 (PV.toI (FV.pv (OV.fv (List.headD (Prod.fst r1) (OV.flat FV.gone)))) + (2 : Int))) - (1 : Int))))) == (255 : Int))
  (needB (Nat.ble ((List.length (x1 ++ (List.drop (Int.toNat x2) (List.take (Int.toNat (IntKind.wrap .i64 (x2 + PV.toI (FV.pv (OV.fv (List.headD (Prod.fst r1) (OV.flat FV.gone))))))) x0))) + List.length [PV.int .u8 (0 : Int)]) * 1) 140737488355328) <|
  needB (Nat.ble (List.length (x1 ++ (List.drop (Int.toNat x2) (List.take (Int.toNat (IntKind.wrap .i64 (x2 + PV.toI (FV.pv (OV.fv (List.headD (Prod.fst r1) (OV.flat FV.gone))))))) x0))) + List.length [PV.int .u8 (0 : Int)]) 9223372036854775807) <|
  self_l0 x0 ((x1 ++ (List.drop (Int.toNat x2) (List.take (Int.toNat (IntKind.wrap .i64 (x2 + PV.toI (FV.pv (OV.fv (List.headD (Prod.fst r1) (OV.flat FV.gone))))))) x0))) ++ [PV.int .u8 (0 : Int)]) (IntKind.wrap .i64 (x2 + IntKind.wrap .i64 (PV.toI (FV.pv (OV.fv (List.headD (Prod.fst r1) (OV.flat FV.gone)))) + (2 : Int)))))
  (some ([OV.flat (FV.val (PV.str ([] : List UInt8))), OV.flat (FV.val (PV.int .i64 (0 : Int))), OV.flat (FV.val (PV.int .i64 (4 : Int)))], []))))))
  (some ([OV.flat (FV.val (PV.str ([] : List UInt8))), OV.flat (FV.val (PV.int .i64 (0 : Int))), OV.flat (FV.val (PV.int .i64 (3 : Int)))], []))

noncomputable def f10_plain_TakeTextKey.l0 (rec : Rec) (n : Nat) : Nat → List PV → List PV → Int → Option (List OV × List OV)
  | 0, _, _, _ => none
  | m + 1, x0, x1, x2 => f10_plain_TakeTextKey.l0.step rec n (f10_plain_TakeTextKey.l0 rec n m) x0 x1 x2

theorem f10_plain_TakeTextKey.l0_eq (rec : Rec) (n : Nat) : ∀ (m : Nat) (x0 : List PV) (x1 : List PV) (x2 : Int), loopAt C rec n 10 [1, 0, 1, 1, 1, 0, 0] [] m [(0, SV.home (OV.flat (FV.val (PV.sl none x0)))), (5, SV.home (OV.flat (FV.own none x1 []))), (6, SV.home (OV.flat (FV.val (PV.int .i64 x2))))] = f10_plain_TakeTextKey.l0 rec n m x0 x1 x2
  | 0, x0, x1, x2 => by kernel_rfl
  | m + 1, x0, x1, x2 => by
    have ih : (fun x0 x1 x2 => loopAt C rec n 10 [1, 0, 1, 1, 1, 0, 0] [] m [(0, SV.home (OV.flat (FV.val (PV.sl none x0)))), (5, SV.home (OV.flat (FV.own none x1 []))), (6, SV.home (OV.flat (FV.val (PV.int .i64 x2))))]) = f10_plain_TakeTextKey.l0 rec n m := funext fun x0 => funext fun x1 => funext fun x2 => f10_plain_TakeTextKey.l0_eq rec n m x0 x1 x2
    exact (show loopAt C rec n 10 [1, 0, 1, 1, 1, 0, 0] [] (m + 1) [(0, SV.home (OV.flat (FV.val (PV.sl none x0)))), (5, SV.home (OV.flat (FV.own none x1 []))), (6, SV.home (OV.flat (FV.val (PV.int .i64 x2))))] = f10_plain_TakeTextKey.l0.step rec n (fun x0 x1 x2 => loopAt C rec n 10 [1, 0, 1, 1, 1, 0, 0] [] m [(0, SV.home (OV.flat (FV.val (PV.sl none x0)))), (5, SV.home (OV.flat (FV.own none x1 []))), (6, SV.home (OV.flat (FV.val (PV.int .i64 x2))))]) x0 x1 x2 from by kernel_rfl).trans (by rw [ih]; rfl)

noncomputable def f10_plain_TakeTextKey.pre (rec : Rec) (n : Nat) (l0 : List PV → List PV → Int → Option (List OV × List OV)) (a0 : List PV) : Option (List OV × List OV) :=
  l0 a0 [] (0 : Int)

noncomputable def f10_plain_TakeTextKey (rec : Rec) (n : Nat) (a0 : List PV) : Option (List OV × List OV) := f10_plain_TakeTextKey.pre rec n (f10_plain_TakeTextKey.l0 rec n n) a0

theorem f10_plain_TakeTextKey_eq (rec : Rec) (n : Nat) (a0 : List PV) : callBody C rec n 10 [OV.flat (FV.val (PV.sl none a0))] = f10_plain_TakeTextKey rec n a0 := by
  have i0 : (fun x0 x1 x2 => loopAt C rec n 10 [1, 0, 1, 1, 1, 0, 0] [] n [(0, SV.home (OV.flat (FV.val (PV.sl none x0)))), (5, SV.home (OV.flat (FV.own none x1 []))), (6, SV.home (OV.flat (FV.val (PV.int .i64 x2))))]) = f10_plain_TakeTextKey.l0 rec n n := funext fun x0 => funext fun x1 => funext fun x2 => f10_plain_TakeTextKey.l0_eq rec n n x0 x1 x2
  exact (show callBody C rec n 10 [OV.flat (FV.val (PV.sl none a0))] = f10_plain_TakeTextKey.pre rec n (fun x0 x1 x2 => loopAt C rec n 10 [1, 0, 1, 1, 1, 0, 0] [] n [(0, SV.home (OV.flat (FV.val (PV.sl none x0)))), (5, SV.home (OV.flat (FV.own none x1 []))), (6, SV.home (OV.flat (FV.val (PV.int .i64 x2))))]) a0 from by kernel_rfl).trans (by rw [i0]; rfl)

noncomputable def f11_vestryref01_TakeTextKey.l0.step (rec : Rec) (n : Nat) (self_l0 : List PV → List PV → Int → Option (List OV × List OV)) (x0 : List PV) (x1 : List PV) (x2 : Int) : Option (List OV × List OV) :=
  ifB (decide (x2 < ((List.length x0 : Nat) : Int)))
  (needB (decide ((0 : Int) ≤ x2)) <|
  needB (decide (x2 < ((List.length x0 : Nat) : Int))) <|
  needB (hasT Go.Proofs.Tryd.prog 5 (nthP x0 (Int.toNat x2))) <|
  ifB (PV.toI (nthP x0 (Int.toNat x2)) != (0 : Int))
  (needB (decide ((0 : Int) ≤ x2)) <|
  needB (decide (x2 < ((List.length x0 : Nat) : Int))) <|
  needB (hasT Go.Proofs.Tryd.prog 5 (nthP x0 (Int.toNat x2))) <|
  needB (Nat.ble ((List.length x1 + List.length [PV.int .u8 (PV.toI (nthP x0 (Int.toNat x2)))]) * 1) 140737488355328) <|
  needB (Nat.ble (List.length x1 + List.length [PV.int .u8 (PV.toI (nthP x0 (Int.toNat x2)))]) 9223372036854775807) <|
  self_l0 x0 (x1 ++ [PV.int .u8 (PV.toI (nthP x0 (Int.toNat x2)))]) (IntKind.wrap .i64 (x2 + (1 : Int))))
  (ifB (IntKind.wrap .i64 (x2 + (1 : Int)) == ((List.length x0 : Nat) : Int))
  (some ([OV.flat (FV.val (PV.str ([] : List UInt8))), OV.flat (FV.val (PV.int .i64 (0 : Int))), OV.flat (FV.val (PV.int .i64 (3 : Int)))], []))
  (needB (decide ((0 : Int) ≤ IntKind.wrap .i64 (x2 + (1 : Int)))) <|
  needB (decide (IntKind.wrap .i64 (x2 + (1 : Int)) < ((List.length x0 : Nat) : Int))) <|
  needB (hasT Go.Proofs.Tryd.prog 5 (nthP x0 (Int.toNat (IntKind.wrap .i64 (x2 + (1 : Int)))))) <|
  ifB (PV.toI (nthP x0 (Int.toNat (IntKind.wrap .i64 (x2 + (1 : Int))))) == (0 : Int))
  (needB (List.all x1 isByte) <|
  some ([OV.flat (FV.val (PV.str (List.map u8Of x1))), OV.flat (FV.val (PV.int .i64 (IntKind.wrap .i64 (x2 + (2 : Int))))), OV.flat (FV.val (PV.int .i64 (0 : Int)))], []))
  (needB (decide ((0 : Int) ≤ IntKind.wrap .i64 (x2 + (1 : Int)))) <|
  needB (decide (IntKind.wrap .i64 (x2 + (1 : Int)) < ((List.length x0 : Nat) : Int))) <|
  needB (hasT Go.Proofs.Tryd.prog 5 (nthP x0 (Int.toNat (IntKind.wrap .i64 (x2 + (1 : Int)))))) <|
  ifB (PV.toI (nthP x0 (Int.toNat (IntKind.wrap .i64 (x2 + (1 : Int))))) != (255 : Int))
  (some ([OV.flat (FV.val (PV.str ([] : List UInt8))), OV.flat (FV.val (PV.int .i64 (0 : Int))), OV.flat (FV.val (PV.int .i64 (4 : Int)))], []))
  (needB (Nat.ble ((List.length x1 + List.length [PV.int .u8 (0 : Int)]) * 1) 140737488355328) <|
  needB (Nat.ble (List.length x1 + List.length [PV.int .u8 (0 : Int)]) 9223372036854775807) <|
  self_l0 x0 (x1 ++ [PV.int .u8 (0 : Int)]) (IntKind.wrap .i64 (IntKind.wrap .i64 (x2 + (1 : Int)) + (1 : Int))))))))
  (some ([OV.flat (FV.val (PV.str ([] : List UInt8))), OV.flat (FV.val (PV.int .i64 (0 : Int))), OV.flat (FV.val (PV.int .i64 (3 : Int)))], []))

noncomputable def f11_vestryref01_TakeTextKey.l0 (rec : Rec) (n : Nat) : Nat → List PV → List PV → Int → Option (List OV × List OV)
  | 0, _, _, _ => none
  | m + 1, x0, x1, x2 => f11_vestryref01_TakeTextKey.l0.step rec n (f11_vestryref01_TakeTextKey.l0 rec n m) x0 x1 x2

theorem f11_vestryref01_TakeTextKey.l0_eq (rec : Rec) (n : Nat) : ∀ (m : Nat) (x0 : List PV) (x1 : List PV) (x2 : Int), loopAt C rec n 11 [1, 1, 0, 1, 0] [] m [(0, SV.home (OV.flat (FV.val (PV.sl none x0)))), (5, SV.home (OV.flat (FV.own none x1 []))), (6, SV.home (OV.flat (FV.val (PV.int .i64 x2))))] = f11_vestryref01_TakeTextKey.l0 rec n m x0 x1 x2
  | 0, x0, x1, x2 => by kernel_rfl
  | m + 1, x0, x1, x2 => by
    have ih : (fun x0 x1 x2 => loopAt C rec n 11 [1, 1, 0, 1, 0] [] m [(0, SV.home (OV.flat (FV.val (PV.sl none x0)))), (5, SV.home (OV.flat (FV.own none x1 []))), (6, SV.home (OV.flat (FV.val (PV.int .i64 x2))))]) = f11_vestryref01_TakeTextKey.l0 rec n m := funext fun x0 => funext fun x1 => funext fun x2 => f11_vestryref01_TakeTextKey.l0_eq rec n m x0 x1 x2
    exact (show loopAt C rec n 11 [1, 1, 0, 1, 0] [] (m + 1) [(0, SV.home (OV.flat (FV.val (PV.sl none x0)))), (5, SV.home (OV.flat (FV.own none x1 []))), (6, SV.home (OV.flat (FV.val (PV.int .i64 x2))))] = f11_vestryref01_TakeTextKey.l0.step rec n (fun x0 x1 x2 => loopAt C rec n 11 [1, 1, 0, 1, 0] [] m [(0, SV.home (OV.flat (FV.val (PV.sl none x0)))), (5, SV.home (OV.flat (FV.own none x1 []))), (6, SV.home (OV.flat (FV.val (PV.int .i64 x2))))]) x0 x1 x2 from by kernel_rfl).trans (by rw [ih]; rfl)

noncomputable def f11_vestryref01_TakeTextKey.pre (rec : Rec) (n : Nat) (l0 : List PV → List PV → Int → Option (List OV × List OV)) (a0 : List PV) : Option (List OV × List OV) :=
  l0 a0 [] (0 : Int)

noncomputable def f11_vestryref01_TakeTextKey (rec : Rec) (n : Nat) (a0 : List PV) : Option (List OV × List OV) := f11_vestryref01_TakeTextKey.pre rec n (f11_vestryref01_TakeTextKey.l0 rec n n) a0

theorem f11_vestryref01_TakeTextKey_eq (rec : Rec) (n : Nat) (a0 : List PV) : callBody C rec n 11 [OV.flat (FV.val (PV.sl none a0))] = f11_vestryref01_TakeTextKey rec n a0 := by
  have i0 : (fun x0 x1 x2 => loopAt C rec n 11 [1, 1, 0, 1, 0] [] n [(0, SV.home (OV.flat (FV.val (PV.sl none x0)))), (5, SV.home (OV.flat (FV.own none x1 []))), (6, SV.home (OV.flat (FV.val (PV.int .i64 x2))))]) = f11_vestryref01_TakeTextKey.l0 rec n n := funext fun x0 => funext fun x1 => funext fun x2 => f11_vestryref01_TakeTextKey.l0_eq rec n n x0 x1 x2
  exact (show callBody C rec n 11 [OV.flat (FV.val (PV.sl none a0))] = f11_vestryref01_TakeTextKey.pre rec n (fun x0 x1 x2 => loopAt C rec n 11 [1, 1, 0, 1, 0] [] n [(0, SV.home (OV.flat (FV.val (PV.sl none x0)))), (5, SV.home (OV.flat (FV.own none x1 []))), (6, SV.home (OV.flat (FV.val (PV.int .i64 x2))))]) a0 from by kernel_rfl).trans (by rw [i0]; rfl)

noncomputable def f13_vestryref01_TextKey.l0.step (rec : Rec) (n : Nat) (self_l0 : List UInt8 → List PV → Int → Option (List OV × List OV)) (x0 : List UInt8) (x1 : List PV) (x2 : Int) : Option (List OV × List OV) :=
  ifB (decide (x2 < ((List.length x0 : Nat) : Int)))
  (needB (decide ((0 : Int) ≤ x2)) <|
  needB (decide (x2 < ((List.length x0 : Nat) : Int))) <|
  needB (Nat.ble ((List.length x1 + List.length [PV.int .u8 ((UInt8.toNat (List.getD x0 (Int.toNat x2) 0) : Nat) : Int)]) * 1) 140737488355328) <|
  needB (Nat.ble (List.length x1 + List.length [PV.int .u8 ((UInt8.toNat (List.getD x0 (Int.toNat x2) 0) : Nat) : Int)]) 9223372036854775807) <|
  needB (decide ((0 : Int) ≤ x2)) <|
  needB (decide (x2 < ((List.length x0 : Nat) : Int))) <|
  ifB (((UInt8.toNat (List.getD x0 (Int.toNat x2) 0) : Nat) : Int) == (0 : Int))
  (needB (Nat.ble ((List.length (x1 ++ [PV.int .u8 ((UInt8.toNat (List.getD x0 (Int.toNat x2) 0) : Nat) : Int)]) + List.length [PV.int .u8 (255 : Int)]) * 1) 140737488355328) <|
  needB (Nat.ble (List.length (x1 ++ [PV.int .u8 ((UInt8.toNat (List.getD x0 (Int.toNat x2) 0) : Nat) : Int)]) + List.length [PV.int .u8 (255 : Int)]) 9223372036854775807) <|
  self_l0 x0 ((x1 ++ [PV.int .u8 ((UInt8.toNat (List.getD x0 (Int.toNat x2) 0) : Nat) : Int)]) ++ [PV.int .u8 (255 : Int)]) (IntKind.wrap .i64 (x2 + (1 : Int))))
  (self_l0 x0 (x1 ++ [PV.int .u8 ((UInt8.toNat (List.getD x0 (Int.toNat x2) 0) : Nat) : Int)]) (IntKind.wrap .i64 (x2 + (1 : Int)))))
  (needB (Nat.ble ((List.length x1 + List.length [PV.int .u8 (0 : Int), PV.int .u8 (0 : Int)]) * 1) 140737488355328) <|
  needB (Nat.ble (List.length x1 + List.length [PV.int .u8 (0 : Int), PV.int .u8 (0 : Int)]) 9223372036854775807) <|
  some ([OV.flat (FV.own none (x1 ++ [PV.int .u8 (0 : Int), PV.int .u8 (0 : Int)]) [])], []))

noncomputable def f13_vestryref01_TextKey.l0 (rec : Rec) (n : Nat) : Nat → List UInt8 → List PV → Int → Option (List OV × List OV)
  | 0, _, _, _ => none
  | m + 1, x0, x1, x2 => f13_vestryref01_TextKey.l0.step rec n (f13_vestryref01_TextKey.l0 rec n m) x0 x1 x2

theorem f13_vestryref01_TextKey.l0_eq (rec : Rec) (n : Nat) : ∀ (m : Nat) (x0 : List UInt8) (x1 : List PV) (x2 : Int), loopAt C rec n 13 [1, 1, 0, 1, 0] [] m [(0, SV.home (OV.flat (FV.val (PV.str x0)))), (3, SV.home (OV.flat (FV.own none x1 []))), (4, SV.home (OV.flat (FV.val (PV.int .i64 x2))))] = f13_vestryref01_TextKey.l0 rec n m x0 x1 x2
  | 0, x0, x1, x2 => by kernel_rfl
  | m + 1, x0, x1, x2 => by
    have ih : (fun x0 x1 x2 => loopAt C rec n 13 [1, 1, 0, 1, 0] [] m [(0, SV.home (OV.flat (FV.val (PV.str x0)))), (3, SV.home (OV.flat (FV.own none x1 []))), (4, SV.home (OV.flat (FV.val (PV.int .i64 x2))))]) = f13_vestryref01_TextKey.l0 rec n m := funext fun x0 => funext fun x1 => funext fun x2 => f13_vestryref01_TextKey.l0_eq rec n m x0 x1 x2
    exact (show loopAt C rec n 13 [1, 1, 0, 1, 0] [] (m + 1) [(0, SV.home (OV.flat (FV.val (PV.str x0)))), (3, SV.home (OV.flat (FV.own none x1 []))), (4, SV.home (OV.flat (FV.val (PV.int .i64 x2))))] = f13_vestryref01_TextKey.l0.step rec n (fun x0 x1 x2 => loopAt C rec n 13 [1, 1, 0, 1, 0] [] m [(0, SV.home (OV.flat (FV.val (PV.str x0)))), (3, SV.home (OV.flat (FV.own none x1 []))), (4, SV.home (OV.flat (FV.val (PV.int .i64 x2))))]) x0 x1 x2 from by kernel_rfl).trans (by rw [ih]; rfl)

noncomputable def f13_vestryref01_TextKey.pre (rec : Rec) (n : Nat) (l0 : List UInt8 → List PV → Int → Option (List OV × List OV)) (a0 : List UInt8) : Option (List OV × List OV) :=
  l0 a0 [] (0 : Int)

noncomputable def f13_vestryref01_TextKey (rec : Rec) (n : Nat) (a0 : List UInt8) : Option (List OV × List OV) := f13_vestryref01_TextKey.pre rec n (f13_vestryref01_TextKey.l0 rec n n) a0

theorem f13_vestryref01_TextKey_eq (rec : Rec) (n : Nat) (a0 : List UInt8) : callBody C rec n 13 [OV.flat (FV.val (PV.str a0))] = f13_vestryref01_TextKey rec n a0 := by
  have i0 : (fun x0 x1 x2 => loopAt C rec n 13 [1, 1, 0, 1, 0] [] n [(0, SV.home (OV.flat (FV.val (PV.str x0)))), (3, SV.home (OV.flat (FV.own none x1 []))), (4, SV.home (OV.flat (FV.val (PV.int .i64 x2))))]) = f13_vestryref01_TextKey.l0 rec n n := funext fun x0 => funext fun x1 => funext fun x2 => f13_vestryref01_TextKey.l0_eq rec n n x0 x1 x2
  exact (show callBody C rec n 13 [OV.flat (FV.val (PV.str a0))] = f13_vestryref01_TextKey.pre rec n (fun x0 x1 x2 => loopAt C rec n 13 [1, 1, 0, 1, 0] [] n [(0, SV.home (OV.flat (FV.val (PV.str x0)))), (3, SV.home (OV.flat (FV.own none x1 []))), (4, SV.home (OV.flat (FV.val (PV.int .i64 x2))))]) a0 from by kernel_rfl).trans (by rw [i0]; rfl)

noncomputable def f15_plain_TakeNum (rec : Rec) (n : Nat) (a0 : List PV) : Option (List OV × List OV) :=
  callB (rec 23 [OV.flat (FV.val (PV.sl none a0)), OV.flat (FV.val (PV.int .i64 (8 : Int)))]) fun r1 => needB (okOs Go.Proofs.Tryd.prog [3, 4] [] (Prod.fst r1)) <|
  ifB (!(PV.toB (FV.pv (OV.fv (List.headD (List.tail (Prod.fst r1)) (OV.flat FV.gone))))))
  (some ([OV.flat (FV.val (PV.int .i64 (0 : Int))), OV.flat (FV.val (PV.int .i64 (0 : Int))), OV.flat (FV.val (PV.int .i64 (3 : Int)))], []))
  (some ([OV.flat (FV.val (PV.int .i64 (PV.toI (FV.pv (OV.fv (List.headD (Prod.fst r1) (OV.flat FV.gone))))))), OV.flat (FV.val (PV.int .i64 (8 : Int))), OV.flat (FV.val (PV.int .i64 (0 : Int)))], []))

theorem f15_plain_TakeNum_eq (rec : Rec) (n : Nat) (a0 : List PV) : callBody C rec n 15 [OV.flat (FV.val (PV.sl none a0))] = f15_plain_TakeNum rec n a0 := by kernel_rfl

noncomputable def f16_plain_Num (rec : Rec) (n : Nat) (a0 : Int) : Option (List OV × List OV) :=
  callB (rec 24 [OV.flat (FV.own none [] []), OV.flat (FV.val (PV.int .i64 a0)), OV.flat (FV.val (PV.int .i64 (8 : Int)))]) fun r1 => needB (okOs Go.Proofs.Tryd.prog [22] [.o] (Prod.fst r1)) <|
  some ([OV.flat (FV.own none (FV.xs (OV.fv (List.headD (Prod.fst r1) (OV.flat FV.gone)))) [])], [])

theorem f16_plain_Num_eq (rec : Rec) (n : Nat) (a0 : Int) : callBody C rec n 16 [OV.flat (FV.val (PV.int .i64 a0))] = f16_plain_Num rec n a0 := by kernel_rfl

noncomputable def f17_plain_TakeNumKey (rec : Rec) (n : Nat) (a0 : List PV) : Option (List OV × List OV) :=
  callB (rec 15 [OV.flat (FV.val (PV.sl none a0))]) fun r1 => needB (okOs Go.Proofs.Tryd.prog [3, 3, 28] [] (Prod.fst r1)) <|
  ifB (PV.toI (FV.pv (OV.fv (List.headD (List.tail (List.tail (Prod.fst r1))) (OV.flat FV.gone)))) != (0 : Int))
  (some ([OV.flat (FV.val (PV.int .i64 (0 : Int))), OV.flat (FV.val (PV.int .i64 (0 : Int))), OV.flat (FV.val (PV.int .i64 (PV.toI (FV.pv (OV.fv (List.headD (List.tail (List.tail (Prod.fst r1))) (OV.flat FV.gone)))))))], []))
  (some ([OV.flat (FV.val (PV.int .i64 (IntKind.wrap .i64 (((BitVec.toNat ((BitVec.ofInt (IntKind.bits .i64) (PV.toI (FV.pv (OV.fv (List.headD (Prod.fst r1) (OV.flat FV.gone)))))) ^^^ (BitVec.ofInt (IntKind.bits .i64) (-9223372036854775808 : Int))) : Nat) : Int))))), OV.flat (FV.val (PV.int .i64 (PV.toI (FV.pv (OV.fv (List.headD (List.tail (Prod.fst r1)) (OV.flat FV.gone))))))), OV.flat (FV.val (PV.int .i64 (0 : Int)))], []))

theorem f17_plain_TakeNumKey_eq (rec : Rec) (n : Nat) (a0 : List PV) : callBody C rec n 17 [OV.flat (FV.val (PV.sl none a0))] = f17_plain_TakeNumKey rec n a0 := by kernel_rfl

noncomputable def f18_plain_Row.l0.step (rec : Rec) (n : Nat) (self_l0 : List PV → List PV → Int → Int → Option (List OV × List OV)) (x0 : List PV) (x1 : List PV) (x2 : Int) (x3 : Int) : Option (List OV × List OV) :=
  ifB (decide (x3 < x2))
  (needB (decide ((0 : Int) ≤ x3)) <|
  needB (decide (x3 < ((List.length x1 : Nat) : Int))) <|
  needB (hasT Go.Proofs.Tryd.prog 22 (nthP x1 (Int.toNat x3))) <|
  callB (rec 25 [OV.flat (FV.val (PV.sl none (PV.toL (nthP x1 (Int.toNat x3)))))]) fun r2 => needB (okOs Go.Proofs.Tryd.prog [22, 28] [.o, .v] (Prod.fst r2)) <|
  ifB (PV.toI (FV.pv (OV.fv (List.headD (List.tail (Prod.fst r2)) (OV.flat FV.gone)))) != (0 : Int))
  (some ([OV.flat (FV.own none [] []), OV.flat (FV.val (PV.int .i64 (PV.toI (FV.pv (OV.fv (List.headD (List.tail (Prod.fst r2)) (OV.flat FV.gone)))))))], []))
  (needB (Nat.ble ((List.length x0 + List.length (FV.xs (OV.fv (List.headD (Prod.fst r2) (OV.flat FV.gone))))) * 1) 140737488355328) <|
  needB (Nat.ble (List.length x0 + List.length (FV.xs (OV.fv (List.headD (Prod.fst r2) (OV.flat FV.gone))))) 9223372036854775807) <|
  self_l0 (x0 ++ (FV.xs (OV.fv (List.headD (Prod.fst r2) (OV.flat FV.gone))))) x1 x2 (IntKind.wrap .i64 (x3 + (1 : Int)))))
  (some ([OV.flat (FV.own none x0 []), OV.flat (FV.val (PV.int .i64 (0 : Int)))], []))

noncomputable def f18_plain_Row.l0 (rec : Rec) (n : Nat) : Nat → List PV → List PV → Int → Int → Option (List OV × List OV)
  | 0, _, _, _, _ => none
  | m + 1, x0, x1, x2, x3 => f18_plain_Row.l0.step rec n (f18_plain_Row.l0 rec n m) x0 x1 x2 x3

theorem f18_plain_Row.l0_eq (rec : Rec) (n : Nat) : ∀ (m : Nat) (x0 : List PV) (x1 : List PV) (x2 : Int) (x3 : Int), loopAt C rec n 18 [1, 1, 1, 0, 1, 0] [] m [(4, SV.home (OV.flat (FV.own none x0 []))), (15, SV.home (OV.flat (FV.val (PV.sl none x1)))), (16, SV.home (OV.flat (FV.val (PV.int .i64 x2)))), (17, SV.home (OV.flat (FV.val (PV.int .i64 x3))))] = f18_plain_Row.l0 rec n m x0 x1 x2 x3
  | 0, x0, x1, x2, x3 => by kernel_rfl
  | m + 1, x0, x1, x2, x3 => by
    have ih : (fun x0 x1 x2 x3 => loopAt C rec n 18 [1, 1, 1, 0, 1, 0] [] m [(4, SV.home (OV.flat (FV.own none x0 []))), (15, SV.home (OV.flat (FV.val (PV.sl none x1)))), (16, SV.home (OV.flat (FV.val (PV.int .i64 x2)))), (17, SV.home (OV.flat (FV.val (PV.int .i64 x3))))]) = f18_plain_Row.l0 rec n m := funext fun x0 => funext fun x1 => funext fun x2 => funext fun x3 => f18_plain_Row.l0_eq rec n m x0 x1 x2 x3
    exact (show loopAt C rec n 18 [1, 1, 1, 0, 1, 0] [] (m + 1) [(4, SV.home (OV.flat (FV.own none x0 []))), (15, SV.home (OV.flat (FV.val (PV.sl none x1)))), (16, SV.home (OV.flat (FV.val (PV.int .i64 x2)))), (17, SV.home (OV.flat (FV.val (PV.int .i64 x3))))] = f18_plain_Row.l0.step rec n (fun x0 x1 x2 x3 => loopAt C rec n 18 [1, 1, 1, 0, 1, 0] [] m [(4, SV.home (OV.flat (FV.own none x0 []))), (15, SV.home (OV.flat (FV.val (PV.sl none x1)))), (16, SV.home (OV.flat (FV.val (PV.int .i64 x2)))), (17, SV.home (OV.flat (FV.val (PV.int .i64 x3))))]) x0 x1 x2 x3 from by kernel_rfl).trans (by rw [ih]; rfl)

noncomputable def f18_plain_Row.pre (rec : Rec) (n : Nat) (l0 : List PV → List PV → Int → Int → Option (List OV × List OV)) (a0 : List PV) : Option (List OV × List OV) :=
  ifB (decide (((List.length a0 : Nat) : Int) > (4096 : Int)))
  (some ([OV.flat (FV.own none [] []), OV.flat (FV.val (PV.int .i64 (2 : Int)))], []))
  (callB (rec 24 [OV.flat (FV.own none [] []), OV.flat (FV.val (PV.int .i64 ((List.length a0 : Nat) : Int))), OV.flat (FV.val (PV.int .i64 (4 : Int)))]) fun r1 => needB (okOs Go.Proofs.Tryd.prog [22] [.o] (Prod.fst r1)) <|
  l0 (FV.xs (OV.fv (List.headD (Prod.fst r1) (OV.flat FV.gone)))) a0 ((List.length a0 : Nat) : Int) (0 : Int))

noncomputable def f18_plain_Row (rec : Rec) (n : Nat) (a0 : List PV) : Option (List OV × List OV) := f18_plain_Row.pre rec n (f18_plain_Row.l0 rec n n) a0

theorem f18_plain_Row_eq (rec : Rec) (n : Nat) (a0 : List PV) : callBody C rec n 18 [OV.flat (FV.val (PV.sl none a0))] = f18_plain_Row rec n a0 := by
  have i0 : (fun x0 x1 x2 x3 => loopAt C rec n 18 [1, 1, 1, 0, 1, 0] [] n [(4, SV.home (OV.flat (FV.own none x0 []))), (15, SV.home (OV.flat (FV.val (PV.sl none x1)))), (16, SV.home (OV.flat (FV.val (PV.int .i64 x2)))), (17, SV.home (OV.flat (FV.val (PV.int .i64 x3))))]) = f18_plain_Row.l0 rec n n := funext fun x0 => funext fun x1 => funext fun x2 => funext fun x3 => f18_plain_Row.l0_eq rec n n x0 x1 x2 x3
  exact (show callBody C rec n 18 [OV.flat (FV.val (PV.sl none a0))] = f18_plain_Row.pre rec n (fun x0 x1 x2 x3 => loopAt C rec n 18 [1, 1, 1, 0, 1, 0] [] n [(4, SV.home (OV.flat (FV.own none x0 []))), (15, SV.home (OV.flat (FV.val (PV.sl none x1)))), (16, SV.home (OV.flat (FV.val (PV.int .i64 x2)))), (17, SV.home (OV.flat (FV.val (PV.int .i64 x3))))]) a0 from by kernel_rfl).trans (by rw [i0]; rfl)

noncomputable def f19_plain_TakeRow.l0.step (rec : Rec) (n : Nat) (self_l0 : List PV → Int → List FV → Int → Int → Option (List OV × List OV)) (x0 : List PV) (x1 : Int) (x2 : List FV) (x3 : Int) (x4 : Int) : Option (List OV × List OV) :=
  ifB (decide (x4 < x3))
  (needB (decide ((0 : Int) ≤ x1)) <|
  needB (decide (x1 ≤ ((List.length x0 : Nat) : Int))) <|
  callB (rec 27 [OV.flat (FV.val (PV.sl none (List.drop (Int.toNat x1) x0)))]) fun r2 => needB (okOs Go.Proofs.Tryd.prog [22, 3, 28] [.o, .v, .v] (Prod.fst r2)) <|
  ifB (PV.toI (FV.pv (OV.fv (List.headD (List.tail (List.tail (Prod.fst r2))) (OV.flat FV.gone)))) != (0 : Int))
  (some ([OV.cont .nest [], OV.flat (FV.val (PV.int .i64 (0 : Int))), OV.flat (FV.val (PV.int .i64 (PV.toI (FV.pv (OV.fv (List.headD (List.tail (List.tail (Prod.fst r2))) (OV.flat FV.gone)))))))], []))
  (needB (Nat.ble ((List.length x2 + List.length [FV.own none (FV.xs (OV.fv (List.headD (Prod.fst r2) (OV.flat FV.gone)))) []]) * 24) 140737488355328) <|
  needB (Nat.ble (List.length x2 + List.length [FV.own none (FV.xs (OV.fv (List.headD (Prod.fst r2) (OV.flat FV.gone)))) []]) 9223372036854775807) <|
  self_l0 x0 (IntKind.wrap .i64 (x1 + PV.toI (FV.pv (OV.fv (List.headD (List.tail (Prod.fst r2)) (OV.flat FV.gone)))))) (x2 ++ [FV.own none (FV.xs (OV.fv (List.headD (Prod.fst r2) (OV.flat FV.gone)))) []]) x3 (IntKind.wrap .i64 (x4 + (1 : Int)))))
  (some ([OV.cont .nest x2, OV.flat (FV.val (PV.int .i64 x1)), OV.flat (FV.val (PV.int .i64 (0 : Int)))], []))

noncomputable def f19_plain_TakeRow.l0 (rec : Rec) (n : Nat) : Nat → List PV → Int → List FV → Int → Int → Option (List OV × List OV)
  | 0, _, _, _, _, _ => none
  | m + 1, x0, x1, x2, x3, x4 => f19_plain_TakeRow.l0.step rec n (f19_plain_TakeRow.l0 rec n m) x0 x1 x2 x3 x4

theorem f19_plain_TakeRow.l0_eq (rec : Rec) (n : Nat) : ∀ (m : Nat) (x0 : List PV) (x1 : Int) (x2 : List FV) (x3 : Int) (x4 : Int), loopAt C rec n 19 [1, 1, 1, 1, 1, 0, 1, 0] [] m [(0, SV.home (OV.flat (FV.val (PV.sl none x0)))), (7, SV.home (OV.flat (FV.val (PV.int .i64 x1)))), (8, SV.home (OV.cont .nest x2)), (20, SV.home (OV.flat (FV.val (PV.int .i64 x3)))), (21, SV.home (OV.flat (FV.val (PV.int .i64 x4))))] = f19_plain_TakeRow.l0 rec n m x0 x1 x2 x3 x4
  | 0, x0, x1, x2, x3, x4 => by kernel_rfl
  | m + 1, x0, x1, x2, x3, x4 => by
    have ih : (fun x0 x1 x2 x3 x4 => loopAt C rec n 19 [1, 1, 1, 1, 1, 0, 1, 0] [] m [(0, SV.home (OV.flat (FV.val (PV.sl none x0)))), (7, SV.home (OV.flat (FV.val (PV.int .i64 x1)))), (8, SV.home (OV.cont .nest x2)), (20, SV.home (OV.flat (FV.val (PV.int .i64 x3)))), (21, SV.home (OV.flat (FV.val (PV.int .i64 x4))))]) = f19_plain_TakeRow.l0 rec n m := funext fun x0 => funext fun x1 => funext fun x2 => funext fun x3 => funext fun x4 => f19_plain_TakeRow.l0_eq rec n m x0 x1 x2 x3 x4
    exact (show loopAt C rec n 19 [1, 1, 1, 1, 1, 0, 1, 0] [] (m + 1) [(0, SV.home (OV.flat (FV.val (PV.sl none x0)))), (7, SV.home (OV.flat (FV.val (PV.int .i64 x1)))), (8, SV.home (OV.cont .nest x2)), (20, SV.home (OV.flat (FV.val (PV.int .i64 x3)))), (21, SV.home (OV.flat (FV.val (PV.int .i64 x4))))] = f19_plain_TakeRow.l0.step rec n (fun x0 x1 x2 x3 x4 => loopAt C rec n 19 [1, 1, 1, 1, 1, 0, 1, 0] [] m [(0, SV.home (OV.flat (FV.val (PV.sl none x0)))), (7, SV.home (OV.flat (FV.val (PV.int .i64 x1)))), (8, SV.home (OV.cont .nest x2)), (20, SV.home (OV.flat (FV.val (PV.int .i64 x3)))), (21, SV.home (OV.flat (FV.val (PV.int .i64 x4))))]) x0 x1 x2 x3 x4 from by kernel_rfl).trans (by rw [ih]; rfl)

noncomputable def f19_plain_TakeRow.pre (rec : Rec) (n : Nat) (l0 : List PV → Int → List FV → Int → Int → Option (List OV × List OV)) (a0 : List PV) : Option (List OV × List OV) :=
  callB (rec 26 [OV.flat (FV.val (PV.sl none a0)), OV.flat (FV.val (PV.int .i64 (4096 : Int)))]) fun r1 => needB (okOs Go.Proofs.Tryd.prog [3, 28] [] (Prod.fst r1)) <|
  ifB (PV.toI (FV.pv (OV.fv (List.headD (List.tail (Prod.fst r1)) (OV.flat FV.gone)))) != (0 : Int))
  (some ([OV.cont .nest [], OV.flat (FV.val (PV.int .i64 (0 : Int))), OV.flat (FV.val (PV.int .i64 (PV.toI (FV.pv (OV.fv (List.headD (List.tail (Prod.fst r1)) (OV.flat FV.gone)))))))], []))
  (l0 a0 (4 : Int) [] (PV.toI (FV.pv (OV.fv (List.headD (Prod.fst r1) (OV.flat FV.gone))))) (0 : Int))

noncomputable def f19_plain_TakeRow (rec : Rec) (n : Nat) (a0 : List PV) : Option (List OV × List OV) := f19_plain_TakeRow.pre rec n (f19_plain_TakeRow.l0 rec n n) a0

theorem f19_plain_TakeRow_eq (rec : Rec) (n : Nat) (a0 : List PV) : callBody C rec n 19 [OV.flat (FV.val (PV.sl none a0))] = f19_plain_TakeRow rec n a0 := by
  have i0 : (fun x0 x1 x2 x3 x4 => loopAt C rec n 19 [1, 1, 1, 1, 1, 0, 1, 0] [] n [(0, SV.home (OV.flat (FV.val (PV.sl none x0)))), (7, SV.home (OV.flat (FV.val (PV.int .i64 x1)))), (8, SV.home (OV.cont .nest x2)), (20, SV.home (OV.flat (FV.val (PV.int .i64 x3)))), (21, SV.home (OV.flat (FV.val (PV.int .i64 x4))))]) = f19_plain_TakeRow.l0 rec n n := funext fun x0 => funext fun x1 => funext fun x2 => funext fun x3 => funext fun x4 => f19_plain_TakeRow.l0_eq rec n n x0 x1 x2 x3 x4
  exact (show callBody C rec n 19 [OV.flat (FV.val (PV.sl none a0))] = f19_plain_TakeRow.pre rec n (fun x0 x1 x2 x3 x4 => loopAt C rec n 19 [1, 1, 1, 1, 1, 0, 1, 0] [] n [(0, SV.home (OV.flat (FV.val (PV.sl none x0)))), (7, SV.home (OV.flat (FV.val (PV.int .i64 x1)))), (8, SV.home (OV.cont .nest x2)), (20, SV.home (OV.flat (FV.val (PV.int .i64 x3)))), (21, SV.home (OV.flat (FV.val (PV.int .i64 x4))))]) a0 from by kernel_rfl).trans (by rw [i0]; rfl)

noncomputable def f20_vestrylaw01_SameRows.l0.step (rec : Rec) (n : Nat) (self_l0 : List PV → List PV → Int → Option (List OV × List OV)) (x0 : List PV) (x1 : List PV) (x2 : Int) : Option (List OV × List OV) :=
  ifB (decide (x2 < ((List.length x0 : Nat) : Int)))
  (needB (decide ((0 : Int) ≤ x2)) <|
  needB (decide (x2 < ((List.length x0 : Nat) : Int))) <|
  needB (hasT Go.Proofs.Tryd.prog 22 (nthP x0 (Int.toNat x2))) <|
  needB (List.all (PV.toL (nthP x0 (Int.toNat x2))) isByte) <|
  needB (decide ((0 : Int) ≤ x2)) <|
  needB (decide (x2 < ((List.length x1 : Nat) : Int))) <|
  needB (hasT Go.Proofs.Tryd.prog 22 (nthP x1 (Int.toNat x2))) <|
  needB (List.all (PV.toL (nthP x1 (Int.toNat x2))) isByte) <|
  ifB (!((List.map u8Of (PV.toL (nthP x0 (Int.toNat x2)))) == (List.map u8Of (PV.toL (nthP x1 (Int.toNat x2))))))
  (some ([OV.flat (FV.val (PV.bool false))], []))
  (self_l0 x0 x1 (IntKind.wrap .i64 (x2 + (1 : Int)))))
  (some ([OV.flat (FV.val (PV.bool true))], []))

noncomputable def f20_vestrylaw01_SameRows.l0 (rec : Rec) (n : Nat) : Nat → List PV → List PV → Int → Option (List OV × List OV)
  | 0, _, _, _ => none
  | m + 1, x0, x1, x2 => f20_vestrylaw01_SameRows.l0.step rec n (f20_vestrylaw01_SameRows.l0 rec n m) x0 x1 x2

theorem f20_vestrylaw01_SameRows.l0_eq (rec : Rec) (n : Nat) : ∀ (m : Nat) (x0 : List PV) (x1 : List PV) (x2 : Int), loopAt C rec n 20 [1, 1, 0, 1, 0] [] m [(0, SV.home (OV.flat (FV.val (PV.sl none x0)))), (1, SV.home (OV.flat (FV.val (PV.sl none x1)))), (5, SV.home (OV.flat (FV.val (PV.int .i64 x2))))] = f20_vestrylaw01_SameRows.l0 rec n m x0 x1 x2
  | 0, x0, x1, x2 => by kernel_rfl
  | m + 1, x0, x1, x2 => by
    have ih : (fun x0 x1 x2 => loopAt C rec n 20 [1, 1, 0, 1, 0] [] m [(0, SV.home (OV.flat (FV.val (PV.sl none x0)))), (1, SV.home (OV.flat (FV.val (PV.sl none x1)))), (5, SV.home (OV.flat (FV.val (PV.int .i64 x2))))]) = f20_vestrylaw01_SameRows.l0 rec n m := funext fun x0 => funext fun x1 => funext fun x2 => f20_vestrylaw01_SameRows.l0_eq rec n m x0 x1 x2
    exact (show loopAt C rec n 20 [1, 1, 0, 1, 0] [] (m + 1) [(0, SV.home (OV.flat (FV.val (PV.sl none x0)))), (1, SV.home (OV.flat (FV.val (PV.sl none x1)))), (5, SV.home (OV.flat (FV.val (PV.int .i64 x2))))] = f20_vestrylaw01_SameRows.l0.step rec n (fun x0 x1 x2 => loopAt C rec n 20 [1, 1, 0, 1, 0] [] m [(0, SV.home (OV.flat (FV.val (PV.sl none x0)))), (1, SV.home (OV.flat (FV.val (PV.sl none x1)))), (5, SV.home (OV.flat (FV.val (PV.int .i64 x2))))]) x0 x1 x2 from by kernel_rfl).trans (by rw [ih]; rfl)

noncomputable def f20_vestrylaw01_SameRows.pre (rec : Rec) (n : Nat) (l0 : List PV → List PV → Int → Option (List OV × List OV)) (a0 : List PV) (a1 : List PV) : Option (List OV × List OV) :=
  ifB (((List.length a0 : Nat) : Int) != ((List.length a1 : Nat) : Int))
  (some ([OV.flat (FV.val (PV.bool false))], []))
  (l0 a0 a1 (0 : Int))

noncomputable def f20_vestrylaw01_SameRows (rec : Rec) (n : Nat) (a0 : List PV) (a1 : List PV) : Option (List OV × List OV) := f20_vestrylaw01_SameRows.pre rec n (f20_vestrylaw01_SameRows.l0 rec n n) a0 a1

theorem f20_vestrylaw01_SameRows_eq (rec : Rec) (n : Nat) (a0 : List PV) (a1 : List PV) : callBody C rec n 20 [OV.flat (FV.val (PV.sl none a0)), OV.flat (FV.val (PV.sl none a1))] = f20_vestrylaw01_SameRows rec n a0 a1 := by
  have i0 : (fun x0 x1 x2 => loopAt C rec n 20 [1, 1, 0, 1, 0] [] n [(0, SV.home (OV.flat (FV.val (PV.sl none x0)))), (1, SV.home (OV.flat (FV.val (PV.sl none x1)))), (5, SV.home (OV.flat (FV.val (PV.int .i64 x2))))]) = f20_vestrylaw01_SameRows.l0 rec n n := funext fun x0 => funext fun x1 => funext fun x2 => f20_vestrylaw01_SameRows.l0_eq rec n n x0 x1 x2
  exact (show callBody C rec n 20 [OV.flat (FV.val (PV.sl none a0)), OV.flat (FV.val (PV.sl none a1))] = f20_vestrylaw01_SameRows.pre rec n (fun x0 x1 x2 => loopAt C rec n 20 [1, 1, 0, 1, 0] [] n [(0, SV.home (OV.flat (FV.val (PV.sl none x0)))), (1, SV.home (OV.flat (FV.val (PV.sl none x1)))), (5, SV.home (OV.flat (FV.val (PV.int .i64 x2))))]) a0 a1 from by kernel_rfl).trans (by rw [i0]; rfl)

noncomputable def f21_bytes_ReplaceAll (rec : Rec) (n : Nat) (a0 : List PV) (a1 : Int) (a2 : Int) (a3 : Int) : Option (List OV × List OV) :=
  callB (rec 28 [OV.flat (FV.val (PV.sl none a0)), OV.flat (FV.val (PV.sl none [PV.int .u8 a1])), OV.flat (FV.val (PV.sl none [PV.int .u8 a2, PV.int .u8 a3])), OV.flat (FV.val (PV.int .i64 (-1 : Int)))]) fun r1 => needB (okOs Go.Proofs.Tryd.prog [22] [.o] (Prod.fst r1)) <|
  some ([OV.flat (FV.own none (FV.xs (OV.fv (List.headD (Prod.fst r1) (OV.flat FV.gone)))) [])], [])

theorem f21_bytes_ReplaceAll_eq (rec : Rec) (n : Nat) (a0 : List PV) (a1 : Int) (a2 : Int) (a3 : Int) : callBody C rec n 21 [OV.flat (FV.val (PV.sl none a0)), OV.flat (FV.val (PV.sl none [PV.int .u8 a1])), OV.flat (FV.val (PV.sl none [PV.int .u8 a2, PV.int .u8 a3]))] = f21_bytes_ReplaceAll rec n a0 a1 a2 a3 := by kernel_rfl

noncomputable def f23_plain_take.l0.step (rec : Rec) (n : Nat) (self_l0 : Int → List PV → Int → Int → Option (List OV × List OV)) (x0 : Int) (x1 : List PV) (x2 : Int) (x3 : Int) : Option (List OV × List OV) :=
  ifB (decide (x3 < x2))
  (needB (decide ((0 : Int) ≤ x3)) <|
  needB (decide (x3 < ((List.length x1 : Nat) : Int))) <|
  needB (hasT Go.Proofs.Tryd.prog 5 (nthP x1 (Int.toNat x3))) <|
  self_l0 (IntKind.wrap .i64 (((BitVec.toNat ((BitVec.ofInt (IntKind.bits .i64) (IntKind.wrap .i64 (x0 * (2 : Int) ^ (min 8 (IntKind.bits .i64))))) ||| (BitVec.ofInt (IntKind.bits .i64) (IntKind.wrap .i64 (PV.toI (nthP x1 (Int.toNat x3)))))) : Nat) : Int))) x1 x2 (IntKind.wrap .i64 (x3 + (1 : Int))))
  (some ([OV.flat (FV.val (PV.int .i64 x0)), OV.flat (FV.val (PV.bool true))], []))

noncomputable def f23_plain_take.l0 (rec : Rec) (n : Nat) : Nat → Int → List PV → Int → Int → Option (List OV × List OV)
  | 0, _, _, _, _ => none
  | m + 1, x0, x1, x2, x3 => f23_plain_take.l0.step rec n (f23_plain_take.l0 rec n m) x0 x1 x2 x3

theorem f23_plain_take.l0_eq (rec : Rec) (n : Nat) : ∀ (m : Nat) (x0 : Int) (x1 : List PV) (x2 : Int) (x3 : Int), loopAt C rec n 23 [1, 1, 1, 0, 1, 0] [] m [(6, SV.home (OV.flat (FV.val (PV.int .i64 x0)))), (15, SV.home (OV.flat (FV.val (PV.sl none x1)))), (16, SV.home (OV.flat (FV.val (PV.int .i64 x2)))), (17, SV.home (OV.flat (FV.val (PV.int .i64 x3))))] = f23_plain_take.l0 rec n m x0 x1 x2 x3
  | 0, x0, x1, x2, x3 => by kernel_rfl
  | m + 1, x0, x1, x2, x3 => by
    have ih : (fun x0 x1 x2 x3 => loopAt C rec n 23 [1, 1, 1, 0, 1, 0] [] m [(6, SV.home (OV.flat (FV.val (PV.int .i64 x0)))), (15, SV.home (OV.flat (FV.val (PV.sl none x1)))), (16, SV.home (OV.flat (FV.val (PV.int .i64 x2)))), (17, SV.home (OV.flat (FV.val (PV.int .i64 x3))))]) = f23_plain_take.l0 rec n m := funext fun x0 => funext fun x1 => funext fun x2 => funext fun x3 => f23_plain_take.l0_eq rec n m x0 x1 x2 x3
    exact (show loopAt C rec n 23 [1, 1, 1, 0, 1, 0] [] (m + 1) [(6, SV.home (OV.flat (FV.val (PV.int .i64 x0)))), (15, SV.home (OV.flat (FV.val (PV.sl none x1)))), (16, SV.home (OV.flat (FV.val (PV.int .i64 x2)))), (17, SV.home (OV.flat (FV.val (PV.int .i64 x3))))] = f23_plain_take.l0.step rec n (fun x0 x1 x2 x3 => loopAt C rec n 23 [1, 1, 1, 0, 1, 0] [] m [(6, SV.home (OV.flat (FV.val (PV.int .i64 x0)))), (15, SV.home (OV.flat (FV.val (PV.sl none x1)))), (16, SV.home (OV.flat (FV.val (PV.int .i64 x2)))), (17, SV.home (OV.flat (FV.val (PV.int .i64 x3))))]) x0 x1 x2 x3 from by kernel_rfl).trans (by rw [ih]; rfl)

noncomputable def f23_plain_take.pre (rec : Rec) (n : Nat) (l0 : Int → List PV → Int → Int → Option (List OV × List OV)) (a0 : List PV) (a1 : Int) : Option (List OV × List OV) :=
  ifB (decide (((List.length a0 : Nat) : Int) < a1))
  (some ([OV.flat (FV.val (PV.int .i64 (0 : Int))), OV.flat (FV.val (PV.bool false))], []))
  (needB (decide ((0 : Int) ≤ a1)) <|
  needB (decide (a1 ≤ ((List.length a0 : Nat) : Int))) <|
  l0 (0 : Int) (List.take (Int.toNat a1) a0) ((List.length (List.take (Int.toNat a1) a0) : Nat) : Int) (0 : Int))

noncomputable def f23_plain_take (rec : Rec) (n : Nat) (a0 : List PV) (a1 : Int) : Option (List OV × List OV) := f23_plain_take.pre rec n (f23_plain_take.l0 rec n n) a0 a1

theorem f23_plain_take_eq (rec : Rec) (n : Nat) (a0 : List PV) (a1 : Int) : callBody C rec n 23 [OV.flat (FV.val (PV.sl none a0)), OV.flat (FV.val (PV.int .i64 a1))] = f23_plain_take rec n a0 a1 := by
  have i0 : (fun x0 x1 x2 x3 => loopAt C rec n 23 [1, 1, 1, 0, 1, 0] [] n [(6, SV.home (OV.flat (FV.val (PV.int .i64 x0)))), (15, SV.home (OV.flat (FV.val (PV.sl none x1)))), (16, SV.home (OV.flat (FV.val (PV.int .i64 x2)))), (17, SV.home (OV.flat (FV.val (PV.int .i64 x3))))]) = f23_plain_take.l0 rec n n := funext fun x0 => funext fun x1 => funext fun x2 => funext fun x3 => f23_plain_take.l0_eq rec n n x0 x1 x2 x3
  exact (show callBody C rec n 23 [OV.flat (FV.val (PV.sl none a0)), OV.flat (FV.val (PV.int .i64 a1))] = f23_plain_take.pre rec n (fun x0 x1 x2 x3 => loopAt C rec n 23 [1, 1, 1, 0, 1, 0] [] n [(6, SV.home (OV.flat (FV.val (PV.int .i64 x0)))), (15, SV.home (OV.flat (FV.val (PV.sl none x1)))), (16, SV.home (OV.flat (FV.val (PV.int .i64 x2)))), (17, SV.home (OV.flat (FV.val (PV.int .i64 x3))))]) a0 a1 from by kernel_rfl).trans (by rw [i0]; rfl)

noncomputable def f24_plain_put.l0.step (rec : Rec) (n : Nat) (self_l0 : List PV → Int → Int → Option (List OV × List OV)) (x0 : List PV) (x1 : Int) (x2 : Int) : Option (List OV × List OV) :=
  ifB (decide (x2 ≥ (0 : Int)))
  (needB (decide ((0 : Int) ≤ x2)) <|
  needB (Nat.ble ((List.length x0 + List.length [PV.int .u8 (IntKind.wrap .u8 (Int.fdiv x1 ((2 : Int) ^ (min (Int.toNat x2) (IntKind.bits .i64)))))]) * 1) 140737488355328) <|
  needB (Nat.ble (List.length x0 + List.length [PV.int .u8 (IntKind.wrap .u8 (Int.fdiv x1 ((2 : Int) ^ (min (Int.toNat x2) (IntKind.bits .i64)))))]) 9223372036854775807) <|
  self_l0 (x0 ++ [PV.int .u8 (IntKind.wrap .u8 (Int.fdiv x1 ((2 : Int) ^ (min (Int.toNat x2) (IntKind.bits .i64)))))]) x1 (IntKind.wrap .i64 (x2 - (8 : Int))))
  (some ([OV.flat (FV.own none x0 [])], [OV.flat FV.gone, OV.flat FV.gone, OV.flat FV.gone]))

noncomputable def f24_plain_put.l0 (rec : Rec) (n : Nat) : Nat → List PV → Int → Int → Option (List OV × List OV)
  | 0, _, _, _ => none
  | m + 1, x0, x1, x2 => f24_plain_put.l0.step rec n (f24_plain_put.l0 rec n m) x0 x1 x2

theorem f24_plain_put.l0_eq (rec : Rec) (n : Nat) : ∀ (m : Nat) (x0 : List PV) (x1 : Int) (x2 : Int), loopAt C rec n 24 [1, 0, 1, 0] [] m [(0, SV.home (OV.flat (FV.own none x0 []))), (1, SV.home (OV.flat (FV.val (PV.int .i64 x1)))), (7, SV.home (OV.flat (FV.val (PV.int .i64 x2))))] = f24_plain_put.l0 rec n m x0 x1 x2
  | 0, x0, x1, x2 => by kernel_rfl
  | m + 1, x0, x1, x2 => by
    have ih : (fun x0 x1 x2 => loopAt C rec n 24 [1, 0, 1, 0] [] m [(0, SV.home (OV.flat (FV.own none x0 []))), (1, SV.home (OV.flat (FV.val (PV.int .i64 x1)))), (7, SV.home (OV.flat (FV.val (PV.int .i64 x2))))]) = f24_plain_put.l0 rec n m := funext fun x0 => funext fun x1 => funext fun x2 => f24_plain_put.l0_eq rec n m x0 x1 x2
    exact (show loopAt C rec n 24 [1, 0, 1, 0] [] (m + 1) [(0, SV.home (OV.flat (FV.own none x0 []))), (1, SV.home (OV.flat (FV.val (PV.int .i64 x1)))), (7, SV.home (OV.flat (FV.val (PV.int .i64 x2))))] = f24_plain_put.l0.step rec n (fun x0 x1 x2 => loopAt C rec n 24 [1, 0, 1, 0] [] m [(0, SV.home (OV.flat (FV.own none x0 []))), (1, SV.home (OV.flat (FV.val (PV.int .i64 x1)))), (7, SV.home (OV.flat (FV.val (PV.int .i64 x2))))]) x0 x1 x2 from by kernel_rfl).trans (by rw [ih]; rfl)

noncomputable def f24_plain_put.pre (rec : Rec) (n : Nat) (l0 : List PV → Int → Int → Option (List OV × List OV)) (a0 : List PV) (a1 : Int) (a2 : Int) : Option (List OV × List OV) :=
  l0 a0 a1 (IntKind.wrap .i64 ((8 : Int) * IntKind.wrap .i64 (a2 - (1 : Int))))

noncomputable def f24_plain_put (rec : Rec) (n : Nat) (a0 : List PV) (a1 : Int) (a2 : Int) : Option (List OV × List OV) := f24_plain_put.pre rec n (f24_plain_put.l0 rec n n) a0 a1 a2

theorem f24_plain_put_eq (rec : Rec) (n : Nat) (a0 : List PV) (a1 : Int) (a2 : Int) : callBody C rec n 24 [OV.flat (FV.own none a0 []), OV.flat (FV.val (PV.int .i64 a1)), OV.flat (FV.val (PV.int .i64 a2))] = f24_plain_put rec n a0 a1 a2 := by
  have i0 : (fun x0 x1 x2 => loopAt C rec n 24 [1, 0, 1, 0] [] n [(0, SV.home (OV.flat (FV.own none x0 []))), (1, SV.home (OV.flat (FV.val (PV.int .i64 x1)))), (7, SV.home (OV.flat (FV.val (PV.int .i64 x2))))]) = f24_plain_put.l0 rec n n := funext fun x0 => funext fun x1 => funext fun x2 => f24_plain_put.l0_eq rec n n x0 x1 x2
  exact (show callBody C rec n 24 [OV.flat (FV.own none a0 []), OV.flat (FV.val (PV.int .i64 a1)), OV.flat (FV.val (PV.int .i64 a2))] = f24_plain_put.pre rec n (fun x0 x1 x2 => loopAt C rec n 24 [1, 0, 1, 0] [] n [(0, SV.home (OV.flat (FV.own none x0 []))), (1, SV.home (OV.flat (FV.val (PV.int .i64 x1)))), (7, SV.home (OV.flat (FV.val (PV.int .i64 x2))))]) a0 a1 a2 from by kernel_rfl).trans (by rw [i0]; rfl)

noncomputable def f25_plain_Blob (rec : Rec) (n : Nat) (a0 : List PV) : Option (List OV × List OV) :=
  ifB (decide (((List.length a0 : Nat) : Int) > (65536 : Int)))
  (some ([OV.flat (FV.own none [] []), OV.flat (FV.val (PV.int .i64 (2 : Int)))], []))
  (callB (rec 24 [OV.flat (FV.own none [] []), OV.flat (FV.val (PV.int .i64 ((List.length a0 : Nat) : Int))), OV.flat (FV.val (PV.int .i64 (4 : Int)))]) fun r1 => needB (okOs Go.Proofs.Tryd.prog [22] [.o] (Prod.fst r1)) <|
  needB (Nat.ble ((List.length (FV.xs (OV.fv (List.headD (Prod.fst r1) (OV.flat FV.gone)))) + List.length a0) * 1) 140737488355328) <|
  needB (Nat.ble (List.length (FV.xs (OV.fv (List.headD (Prod.fst r1) (OV.flat FV.gone)))) + List.length a0) 9223372036854775807) <|
  some ([OV.flat (FV.own none ((FV.xs (OV.fv (List.headD (Prod.fst r1) (OV.flat FV.gone)))) ++ a0) []), OV.flat (FV.val (PV.int .i64 (0 : Int)))], []))

theorem f25_plain_Blob_eq (rec : Rec) (n : Nat) (a0 : List PV) : callBody C rec n 25 [OV.flat (FV.val (PV.sl none a0))] = f25_plain_Blob rec n a0 := by kernel_rfl

noncomputable def f26_plain_count (rec : Rec) (n : Nat) (a0 : List PV) (a1 : Int) : Option (List OV × List OV) :=
  callB (rec 23 [OV.flat (FV.val (PV.sl none a0)), OV.flat (FV.val (PV.int .i64 (4 : Int)))]) fun r1 => needB (okOs Go.Proofs.Tryd.prog [3, 4] [] (Prod.fst r1)) <|
  ifB (!(PV.toB (FV.pv (OV.fv (List.headD (List.tail (Prod.fst r1)) (OV.flat FV.gone))))))
  (some ([OV.flat (FV.val (PV.int .i64 (0 : Int))), OV.flat (FV.val (PV.int .i64 (3 : Int)))], []))
  (ifB (decide (PV.toI (FV.pv (OV.fv (List.headD (Prod.fst r1) (OV.flat FV.gone)))) > a1))
  (some ([OV.flat (FV.val (PV.int .i64 (0 : Int))), OV.flat (FV.val (PV.int .i64 (2 : Int)))], []))
  (some ([OV.flat (FV.val (PV.int .i64 (PV.toI (FV.pv (OV.fv (List.headD (Prod.fst r1) (OV.flat FV.gone))))))), OV.flat (FV.val (PV.int .i64 (0 : Int)))], [])))

theorem f26_plain_count_eq (rec : Rec) (n : Nat) (a0 : List PV) (a1 : Int) : callBody C rec n 26 [OV.flat (FV.val (PV.sl none a0)), OV.flat (FV.val (PV.int .i64 a1))] = f26_plain_count rec n a0 a1 := by kernel_rfl

noncomputable def f27_plain_TakeBlob (rec : Rec) (n : Nat) (a0 : List PV) : Option (List OV × List OV) :=
  callB (rec 26 [OV.flat (FV.val (PV.sl none a0)), OV.flat (FV.val (PV.int .i64 (65536 : Int)))]) fun r1 => needB (okOs Go.Proofs.Tryd.prog [3, 28] [] (Prod.fst r1)) <|
  ifB (PV.toI (FV.pv (OV.fv (List.headD (List.tail (Prod.fst r1)) (OV.flat FV.gone)))) != (0 : Int))
  (some ([OV.flat (FV.own none [] []), OV.flat (FV.val (PV.int .i64 (0 : Int))), OV.flat (FV.val (PV.int .i64 (PV.toI (FV.pv (OV.fv (List.headD (List.tail (Prod.fst r1)) (OV.flat FV.gone)))))))], []))
  (ifB (decide (IntKind.wrap .i64 (((List.length a0 : Nat) : Int) - (4 : Int)) < PV.toI (FV.pv (OV.fv (List.headD (Prod.fst r1) (OV.flat FV.gone))))))
  (some ([OV.flat (FV.own none [] []), OV.flat (FV.val (PV.int .i64 (0 : Int))), OV.flat (FV.val (PV.int .i64 (3 : Int)))], []))
  (needB (decide ((4 : Int) ≤ IntKind.wrap .i64 ((4 : Int) + PV.toI (FV.pv (OV.fv (List.headD (Prod.fst r1) (OV.flat FV.gone))))))) <|
  needB (decide (IntKind.wrap .i64 ((4 : Int) + PV.toI (FV.pv (OV.fv (List.headD (Prod.fst r1) (OV.flat FV.gone))))) ≤ ((List.length a0 : Nat) : Int))) <|
  callB (rec 30 [OV.flat (FV.val (PV.sl none (List.drop 4 (List.take (Int.toNat (IntKind.wrap .i64 ((4 : Int) + PV.toI (FV.pv (OV.fv (List.headD (Prod.fst r1) (OV.flat FV.gone))))))) a0))))]) fun r2 => needB (okOs Go.Proofs.Tryd.prog [22] [.o] (Prod.fst r2)) <|
  some ([OV.flat (FV.own none (FV.xs (OV.fv (List.headD (Prod.fst r2) (OV.flat FV.gone)))) []), OV.flat (FV.val (PV.int .i64 (IntKind.wrap .i64 ((4 : Int) + PV.toI (FV.pv (OV.fv (List.headD (Prod.fst r1) (OV.flat FV.gone)))))))), OV.flat (FV.val (PV.int .i64 (0 : Int)))], [])))

theorem f27_plain_TakeBlob_eq (rec : Rec) (n : Nat) (a0 : List PV) : callBody C rec n 27 [OV.flat (FV.val (PV.sl none a0))] = f27_plain_TakeBlob rec n a0 := by kernel_rfl

noncomputable def f28_bytes_Replace.l0.step (rec : Rec) (n : Nat) (self_l0 : List PV → List PV → List PV → List PV → Int → Int → Int → Int → Option (List OV × List OV)) (x0 : List PV) (x1 : List PV) (x2 : List PV) (x3 : List PV) (x4 : Int) (x5 : Int) (x6 : Int) (x7 : Int) : Option (List OV × List OV) :=
  ifB (decide (x7 < x6))
  (needB (decide ((0 : Int) ≤ x5)) <|
  needB (decide (x5 ≤ ((List.length x0 : Nat) : Int))) <|
  callB (rec 32 [OV.flat (FV.val (PV.sl none (List.drop (Int.toNat x5) x0))), OV.flat (FV.val (PV.sl none x1))]) fun r2 => needB (okOs Go.Proofs.Tryd.prog [3] [] (Prod.fst r2)) <|
  needB (decide ((0 : Int) ≤ x4)) <|
  needB (decide (x4 ≤ ((List.length x3 : Nat) : Int))) <|
  needB (decide ((0 : Int) ≤ x5)) <|
  needB (decide (x5 ≤ IntKind.wrap .i64 (x5 + PV.toI (FV.pv (OV.fv (List.headD (Prod.fst r2) (OV.flat FV.gone))))))) <|
  needB (decide (IntKind.wrap .i64 (x5 + PV.toI (FV.pv (OV.fv (List.headD (Prod.fst r2) (OV.flat FV.gone))))) ≤ ((List.length x0 : Nat) : Int))) <|
  needB (Nat.blt 0 (List.length x3)) <|
  needB (decide ((0 : Int) ≤ IntKind.wrap .i64 (x4 + ((Nat.min (List.length (List.drop (Int.toNat x5) (List.take (Int.toNat (IntKind.wrap .i64 (x5 + PV.toI (FV.pv (OV.fv (List.headD (Prod.fst r2) (OV.flat FV.gone))))))) x0))) ((List.length x3) - (Int.toNat x4)) : Nat) : Int)))) <|
  needB (decide (IntKind.wrap .i64 (x4 + ((Nat.min (List.length (List.drop (Int.toNat x5) (List.take (Int.toNat (IntKind.wrap .i64 (x5 + PV.toI (FV.pv (OV.fv (List.headD (Prod.fst r2) (OV.flat FV.gone))))))) x0))) ((List.length x3) - (Int.toNat x4)) : Nat) : Int)) ≤ ((List.length (List.take (Int.toNat x4) x3 ++ List.take (Nat.min (List.length (List.drop (Int.toNat x5) (List.take (Int.toNat (IntKind.wrap .i64 (x5 + PV.toI (FV.pv (OV.fv (List.headD (Prod.fst r2) (OV.flat FV.gone))))))) x0))) ((List.length x3) - (Int.toNat x4))) (List.drop (Int.toNat x5) (List.take (Int.toNat (IntKind.wrap .i64 (x5 + PV.toI (FV.pv (OV.fv (List.headD (Prod.fst r2) (OV.flat FV.gone))))))) x0)) ++ List.drop ((Int.toNat x4) + Nat.min (List.length (List.drop (Int.toNat x5) (List.take (Int.toNat (IntKind.wrap .i64 (x5 + PV.toI (FV.pv (OV.fv (List.headD (Prod.fst r2) (OV.flat FV.gone))))))) x0))) ((List.length x3) - (Int.toNat x4))) x3) : Nat) : Int))) <|
  needB (Nat.blt 0 (List.length (List.take (Int.toNat x4) x3 ++ List.take (Nat.min (List.length (List.drop (Int.toNat x5) (List.take (Int.toNat (IntKind.wrap .i64 (x5 + PV.toI (FV.pv (OV.fv (List.headD (Prod.fst r2) (OV.flat FV.gone))))))) x0))) ((List.length x3) - (Int.toNat x4))) (List.drop (Int.toNat x5) (List.take (Int.toNat (IntKind.wrap .i64 (x5 + PV.toI (FV.pv (OV.fv (List.headD (Prod.fst r2) (OV.flat FV.gone))))))) x0)) ++ List.drop ((Int.toNat x4) + Nat.min (List.length (List.drop (Int.toNat x5) (List.take (Int.toNat (IntKind.wrap .i64 (x5 + PV.toI (FV.pv (OV.fv (List.headD (Prod.fst r2) (OV.flat FV.gone))))))) x0))) ((List.length x3) - (Int.toNat x4))) x3))) <|
  self_l0 x0 x1 x2 (List.take (Int.toNat (IntKind.wrap .i64 (x4 + ((Nat.min (List.length (List.drop (Int.toNat x5) (List.take (Int.toNat (IntKind.wrap .i64 (x5 + PV.toI (FV.pv (OV.fv (List.headD (Prod.fst r2) (OV.flat FV.gone))))))) x0))) ((List.length x3) - (Int.toNat x4)) : Nat) : Int)))) (List.take (Int.toNat x4) x3 ++ List.take (Nat.min (List.length (List.drop (Int.toNat x5) (List.take (Int.toNat (IntKind.wrap .i64 (x5 + PV.toI (FV.pv (OV.fv (List.headD (Prod.fst r2) (OV.flat FV.gone))))))) x0))) ((List.length x3) - (Int.toNat x4))) (List.drop (Int.toNat x5) (List.take (Int.toNat (IntKind.wrap .i64 (x5 + PV.toI (FV.pv (OV.fv (List.headD (Prod.fst r2) (OV.flat FV.gone))))))) x0)) ++ List.drop ((Int.toNat x4) + Nat.min (List.length (List.drop (Int.toNat x5) (List.take (Int.toNat (IntKind.wrap .i64 (x5 + PV.toI (FV.pv (OV.fv (List.headD (Prod.fst r2) (OV.flat FV.gone))))))) x0))) ((List.length x3) - (Int.toNat x4))) x3) ++ List.take (Nat.min (List.length x2) ((List.length (List.take (Int.toNat x4) x3 ++ List.take (Nat.min (List.length (List.drop (Int.toNat x5) (List.take (Int.toNat (IntKind.wrap .i64 (x5 + PV.toI (FV.pv (OV.fv (List.headD (Prod.fst r2) (OV.flat FV.gone))))))) x0))) ((List.length x3) - (Int.toNat x4))) (List.drop (Int.toNat x5) (List.take (Int.toNat (IntKind.wrap .i64 (x5 + PV.toI (FV.pv (OV.fv (List.headD (Prod.fst r2) (OV.flat FV.gone))))))) x0)) ++ List.drop ((Int.toNat x4) + Nat.min (List.length (List.drop (Int.toNat x5) (List.take (Int.toNat (IntKind.wrap .i64 (x5 + PV.toI (FV.pv (OV.fv (List.headD (Prod.fst r2) (OV.flat FV.gone))))))) x0))) ((List.length x3) - (Int.toNat x4))) x3)) - (Int.toNat (IntKind.wrap .i64 (x4 + ((Nat.min (List.length (List.drop (Int.toNat x5) (List.take (Int.toNat (IntKind.wrap .i64 (x5 + PV.toI (FV.pv (OV.fv (List.headD (Prod.fst r2) (OV.flat FV.gone))))))) x0))) ((List.length x3) - (Int.toNat x4)) : Nat) : Int)))))) x2 ++ List.drop ((Int.toNat (IntKind.wrap .i64 (x4 + ((Nat.min (List.length (List.drop (Int.toNat x5) (List.take (Int.toNat (IntKind.wrap .i64 (x5 + PV.toI (FV.pv (OV.fv (List.headD (Prod.fst r2) (OV.flat FV.gone))))))) x0))) ((List.length x3) - (Int.toNat x4)) : Nat) : Int)))) + Nat.min (List.length x2) ((List.length (List.take (Int.toNat x4) x3 ++ List.take (Nat.min (List.length (List.drop (Int.toNat x5) (List.take (Int.toNat (IntKind.wrap .i64 (x5 + PV.toI (FV.pv (OV.fv (List.headD (Prod.fst r2) (OV.flat FV.gone))))))) x0))) ((List.length x3) - (Int.toNat x4))) (List.drop (Int.toNat x5) (List.take (Int.toNat (IntKind.wrap .i64 (x5 + PV.toI (FV.pv (OV.fv (List.headD (Prod.fst r2) (OV.flat FV.gone))))))) x0)) ++ List.drop ((Int.toNat x4) + Nat.min (List.length (List.drop (Int.toNat x5) (List.take (Int.toNat (IntKind.wrap .i64 (x5 + PV.toI (FV.pv (OV.fv (List.headD (Prod.fst r2) (OV.flat FV.gone))))))) x0))) ((List.length x3) - (Int.toNat x4))) x3)) - (Int.toNat (IntKind.wrap .i64 (x4 + ((Nat.min (List.length (List.drop (Int.toNat x5) (List.take (Int.toNat (IntKind.wrap .i64 (x5 + PV.toI (FV.pv (OV.fv (List.headD (Prod.fst r2) (OV.flat FV.gone))))))) x0))) ((List.length x3) - (Int.toNat x4)) : Nat) : Int)))))) (List.take (Int.toNat x4) x3 ++ List.take (Nat.min (List.length (List.drop (Int.toNat x5) (List.take (Int.toNat (IntKind.wrap .i64 (x5 + PV.toI (FV.pv (OV.fv (List.headD (Prod.fst r2) (OV.flat FV.gone))))))) x0))) ((List.length x3) - (Int.toNat x4))) (List.drop (Int.toNat x5) (List.take (Int.toNat (IntKind.wrap .i64 (x5 + PV.toI (FV.pv (OV.fv (List.headD (Prod.fst r2) (OV.flat FV.gone))))))) x0)) ++ List.drop ((Int.toNat x4) + Nat.min (List.length (List.drop (Int.toNat x5) (List.take (Int.toNat (IntKind.wrap .i64 (x5 + PV.toI (FV.pv (OV.fv (List.headD (Prod.fst r2) (OV.flat FV.gone))))))) x0))) ((List.length x3) - (Int.toNat x4))) x3)) (IntKind.wrap .i64 (IntKind.wrap .i64 (x4 + ((Nat.min (List.length (List.drop (Int.toNat x5) (List.take (Int.toNat (IntKind.wrap .i64 (x5 + PV.toI (FV.pv (OV.fv (List.headD (Prod.fst r2) (OV.flat FV.gone))))))) x0))) ((List.length x3) - (Int.toNat x4)) : Nat) : Int)) + ((Nat.min (List.length x2) ((List.length (List.take (Int.toNat x4) x3 ++ List.take (Nat.min (List.length (List.drop (Int.toNat x5) (List.take (Int.toNat (IntKind.wrap .i64 (x5 + PV.toI (FV.pv (OV.fv (List.headD (Prod.fst r2) (OV.flat FV.gone))))))) x0))) ((List.length x3) - (Int.toNat x4))) (List.drop (Int.toNat x5) (List.take (Int.toNat (IntKind.wrap .i64 (x5 + PV.toI (FV.pv (OV.fv (List.headD (Prod.fst r2) (OV.flat FV.gone))))))) x0)) ++ List.drop ((Int.toNat x4) + Nat.min (List.length (List.drop (Int.toNat x5) (List.take (Int.toNat (IntKind.wrap .i64 (x5 + PV.toI (FV.pv (OV.fv (List.headD (Prod.fst r2) (OV.flat FV.gone))))))) x0))) ((List.length x3) - (Int.toNat x4))) x3)) - (Int.toNat (IntKind.wrap .i64 (x4 + ((Nat.min (List.length (List.drop (Int.toNat x5) (List.take (Int.toNat (IntKind.wrap .i64 (x5 + PV.toI (FV.pv (OV.fv (List.headD (Prod.fst r2) (OV.flat FV.gone))))))) x0))) ((List.length x3) - (Int.toNat x4)) : Nat) : Int))))) : Nat) : Int))) (IntKind.wrap .i64 (IntKind.wrap .i64 (x5 + PV.toI (FV.pv (OV.fv (List.headD (Prod.fst r2) (OV.flat FV.gone))))) + ((List.length x1 : Nat) : Int))) x6 (IntKind.wrap .i64 (x7 + (1 : Int))))
  (needB (decide ((0 : Int) ≤ x4)) <|
  needB (decide (x4 ≤ ((List.length x3 : Nat) : Int))) <|
  needB (decide ((0 : Int) ≤ x5)) <|
  needB (decide (x5 ≤ ((List.length x0 : Nat) : Int))) <|
  needB (Nat.blt 0 (List.length x3)) <|
  needB (decide ((0 : Int) ≤ IntKind.wrap .i64 (x4 + ((Nat.min (List.length (List.drop (Int.toNat x5) x0)) ((List.length x3) - (Int.toNat x4)) : Nat) : Int)))) <|
  needB (decide (IntKind.wrap .i64 (x4 + ((Nat.min (List.length (List.drop (Int.toNat x5) x0)) ((List.length x3) - (Int.toNat x4)) : Nat) : Int)) ≤ ((List.length (List.take (Int.toNat x4) x3 ++ List.take (Nat.min (List.length (List.drop (Int.toNat x5) x0)) ((List.length x3) - (Int.toNat x4))) (List.drop (Int.toNat x5) x0) ++ List.drop ((Int.toNat x4) + Nat.min (List.length (List.drop (Int.toNat x5) x0)) ((List.length x3) - (Int.toNat x4))) x3) : Nat) : Int))) <|
  some ([OV.flat (FV.own none (List.take (Int.toNat (IntKind.wrap .i64 (x4 + ((Nat.min (List.length (List.drop (Int.toNat x5) x0)) ((List.length x3) - (Int.toNat x4)) : Nat) : Int)))) (List.take (Int.toNat x4) x3 ++ List.take (Nat.min (List.length (List.drop (Int.toNat x5) x0)) ((List.length x3) - (Int.toNat x4))) (List.drop (Int.toNat x5) x0) ++ List.drop ((Int.toNat x4) + Nat.min (List.length (List.drop (Int.toNat x5) x0)) ((List.length x3) - (Int.toNat x4))) x3)) [])], []))

noncomputable def f28_bytes_Replace.l0 (rec : Rec) (n : Nat) : Nat → List PV → List PV → List PV → List PV → Int → Int → Int → Int → Option (List OV × List OV)
  | 0, _, _, _, _, _, _, _, _ => none
  | m + 1, x0, x1, x2, x3, x4, x5, x6, x7 => f28_bytes_Replace.l0.step rec n (f28_bytes_Replace.l0 rec n m) x0 x1 x2 x3 x4 x5 x6 x7

theorem f28_bytes_Replace.l0_eq (rec : Rec) (n : Nat) : ∀ (m : Nat) (x0 : List PV) (x1 : List PV) (x2 : List PV) (x3 : List PV) (x4 : Int) (x5 : Int) (x6 : Int) (x7 : Int), loopAt C rec n 28 [1, 1, 1, 1, 1, 1, 1, 1, 0, 1, 0, 1, 0] [] m [(0, SV.home (OV.flat (FV.val (PV.sl none x0)))), (1, SV.home (OV.flat (FV.val (PV.sl none x1)))), (2, SV.home (OV.flat (FV.val (PV.sl none x2)))), (10, SV.home (OV.flat (FV.own none x3 []))), (11, SV.home (OV.flat (FV.val (PV.int .i64 x4)))), (12, SV.home (OV.flat (FV.val (PV.int .i64 x5)))), (48, SV.home (OV.flat (FV.val (PV.int .i64 x6)))), (49, SV.home (OV.flat (FV.val (PV.int .i64 x7))))] = f28_bytes_Replace.l0 rec n m x0 x1 x2 x3 x4 x5 x6 x7
  | 0, x0, x1, x2, x3, x4, x5, x6, x7 => by kernel_rfl
  | m + 1, x0, x1, x2, x3, x4, x5, x6, x7 => by
    have ih : (fun x0 x1 x2 x3 x4 x5 x6 x7 => loopAt C rec n 28 [1, 1, 1, 1, 1, 1, 1, 1, 0, 1, 0, 1, 0] [] m [(0, SV.home (OV.flat (FV.val (PV.sl none x0)))), (1, SV.home (OV.flat (FV.val (PV.sl none x1)))), (2, SV.home (OV.flat (FV.val (PV.sl none x2)))), (10, SV.home (OV.flat (FV.own none x3 []))), (11, SV.home (OV.flat (FV.val (PV.int .i64 x4)))), (12, SV.home (OV.flat (FV.val (PV.int .i64 x5)))), (48, SV.home (OV.flat (FV.val (PV.int .i64 x6)))), (49, SV.home (OV.flat (FV.val (PV.int .i64 x7))))]) = f28_bytes_Replace.l0 rec n m := funext fun x0 => funext fun x1 => funext fun x2 => funext fun x3 => funext fun x4 => funext fun x5 => funext fun x6 => funext fun x7 => f28_bytes_Replace.l0_eq rec n m x0 x1 x2 x3 x4 x5 x6 x7
    exact (show loopAt C rec n 28 [1, 1, 1, 1, 1, 1, 1, 1, 0, 1, 0, 1, 0] [] (m + 1) [(0, SV.home (OV.flat (FV.val (PV.sl none x0)))), (1, SV.home (OV.flat (FV.val (PV.sl none x1)))), (2, SV.home (OV.flat (FV.val (PV.sl none x2)))), (10, SV.home (OV.flat (FV.own none x3 []))), (11, SV.home (OV.flat (FV.val (PV.int .i64 x4)))), (12, SV.home (OV.flat (FV.val (PV.int .i64 x5)))), (48, SV.home (OV.flat (FV.val (PV.int .i64 x6)))), (49, SV.home (OV.flat (FV.val (PV.int .i64 x7))))] = f28_bytes_Replace.l0.step rec n (fun x0 x1 x2 x3 x4 x5 x6 x7 => loopAt C rec n 28 [1, 1, 1, 1, 1, 1, 1, 1, 0, 1, 0, 1, 0] [] m [(0, SV.home (OV.flat (FV.val (PV.sl none x0)))), (1, SV.home (OV.flat (FV.val (PV.sl none x1)))), (2, SV.home (OV.flat (FV.val (PV.sl none x2)))), (10, SV.home (OV.flat (FV.own none x3 []))), (11, SV.home (OV.flat (FV.val (PV.int .i64 x4)))), (12, SV.home (OV.flat (FV.val (PV.int .i64 x5)))), (48, SV.home (OV.flat (FV.val (PV.int .i64 x6)))), (49, SV.home (OV.flat (FV.val (PV.int .i64 x7))))]) x0 x1 x2 x3 x4 x5 x6 x7 from by kernel_rfl).trans (by rw [ih]; rfl)

noncomputable def f28_bytes_Replace.pre (rec : Rec) (n : Nat) (l0 : List PV → List PV → List PV → List PV → Int → Int → Int → Int → Option (List OV × List OV)) (a0 : List PV) (a1 : Int) (a2 : Int) (a3 : Int) : Option (List OV × List OV) :=
  callB (rec 31 [OV.flat (FV.val (PV.sl none a0)), OV.flat (FV.val (PV.sl none [PV.int .u8 a1]))]) fun r1 => needB (okOs Go.Proofs.Tryd.prog [3] [] (Prod.fst r1)) <|
  ifB (PV.toI (FV.pv (OV.fv (List.headD (Prod.fst r1) (OV.flat FV.gone)))) == (0 : Int))
  (needB (Nat.ble ((List.length ([] : List PV) + List.length a0) * 1) 140737488355328) <|
  needB (Nat.ble (List.length ([] : List PV) + List.length a0) 9223372036854775807) <|
  some ([OV.flat (FV.own none ([] ++ a0) [])], []))
  (needB (decide ((0 : Int) ≤ IntKind.wrap .i64 (((List.length a0 : Nat) : Int) + IntKind.wrap .i64 (PV.toI (FV.pv (OV.fv (List.headD (Prod.fst r1) (OV.flat FV.gone)))) * (1 : Int))))) <|
  needB (IntKind.wrap .i64 (((List.length a0 : Nat) : Int) + IntKind.wrap .i64 (PV.toI (FV.pv (OV.fv (List.headD (Prod.fst r1) (OV.flat FV.gone)))) * (1 : Int))) == IntKind.wrap .i64 (((List.length a0 : Nat) : Int) + IntKind.wrap .i64 (PV.toI (FV.pv (OV.fv (List.headD (Prod.fst r1) (OV.flat FV.gone)))) * (1 : Int)))) <|
  needB (Nat.ble (1 * (Int.toNat (IntKind.wrap .i64 (((List.length a0 : Nat) : Int) + IntKind.wrap .i64 (PV.toI (FV.pv (OV.fv (List.headD (Prod.fst r1) (OV.flat FV.gone)))) * (1 : Int)))))) 140737488355328) <|
  needB (Nat.ble (Int.toNat (IntKind.wrap .i64 (((List.length a0 : Nat) : Int) + IntKind.wrap .i64 (PV.toI (FV.pv (OV.fv (List.headD (Prod.fst r1) (OV.flat FV.gone)))) * (1 : Int))))) 9223372036854775807) <|
  l0 a0 [PV.int .u8 a1] [PV.int .u8 a2, PV.int .u8 a3] (List.replicate (Int.toNat (IntKind.wrap .i64 (((List.length a0 : Nat) : Int) + IntKind.wrap .i64 (PV.toI (FV.pv (OV.fv (List.headD (Prod.fst r1) (OV.flat FV.gone)))) * (1 : Int))))) (PV.int .u8 (0 : Int))) (0 : Int) (0 : Int) (PV.toI (FV.pv (OV.fv (List.headD (Prod.fst r1) (OV.flat FV.gone))))) (0 : Int))

noncomputable def f28_bytes_Replace (rec : Rec) (n : Nat) (a0 : List PV) (a1 : Int) (a2 : Int) (a3 : Int) : Option (List OV × List OV) := f28_bytes_Replace.pre rec n (f28_bytes_Replace.l0 rec n n) a0 a1 a2 a3

theorem f28_bytes_Replace_eq (rec : Rec) (n : Nat) (a0 : List PV) (a1 : Int) (a2 : Int) (a3 : Int) : callBody C rec n 28 [OV.flat (FV.val (PV.sl none a0)), OV.flat (FV.val (PV.sl none [PV.int .u8 a1])), OV.flat (FV.val (PV.sl none [PV.int .u8 a2, PV.int .u8 a3])), OV.flat (FV.val (PV.int .i64 (-1 : Int)))] = f28_bytes_Replace rec n a0 a1 a2 a3 := by
  have i0 : (fun x0 x1 x2 x3 x4 x5 x6 x7 => loopAt C rec n 28 [1, 1, 1, 1, 1, 1, 1, 1, 0, 1, 0, 1, 0] [] n [(0, SV.home (OV.flat (FV.val (PV.sl none x0)))), (1, SV.home (OV.flat (FV.val (PV.sl none x1)))), (2, SV.home (OV.flat (FV.val (PV.sl none x2)))), (10, SV.home (OV.flat (FV.own none x3 []))), (11, SV.home (OV.flat (FV.val (PV.int .i64 x4)))), (12, SV.home (OV.flat (FV.val (PV.int .i64 x5)))), (48, SV.home (OV.flat (FV.val (PV.int .i64 x6)))), (49, SV.home (OV.flat (FV.val (PV.int .i64 x7))))]) = f28_bytes_Replace.l0 rec n n := funext fun x0 => funext fun x1 => funext fun x2 => funext fun x3 => funext fun x4 => funext fun x5 => funext fun x6 => funext fun x7 => f28_bytes_Replace.l0_eq rec n n x0 x1 x2 x3 x4 x5 x6 x7
  exact (show callBody C rec n 28 [OV.flat (FV.val (PV.sl none a0)), OV.flat (FV.val (PV.sl none [PV.int .u8 a1])), OV.flat (FV.val (PV.sl none [PV.int .u8 a2, PV.int .u8 a3])), OV.flat (FV.val (PV.int .i64 (-1 : Int)))] = f28_bytes_Replace.pre rec n (fun x0 x1 x2 x3 x4 x5 x6 x7 => loopAt C rec n 28 [1, 1, 1, 1, 1, 1, 1, 1, 0, 1, 0, 1, 0] [] n [(0, SV.home (OV.flat (FV.val (PV.sl none x0)))), (1, SV.home (OV.flat (FV.val (PV.sl none x1)))), (2, SV.home (OV.flat (FV.val (PV.sl none x2)))), (10, SV.home (OV.flat (FV.own none x3 []))), (11, SV.home (OV.flat (FV.val (PV.int .i64 x4)))), (12, SV.home (OV.flat (FV.val (PV.int .i64 x5)))), (48, SV.home (OV.flat (FV.val (PV.int .i64 x6)))), (49, SV.home (OV.flat (FV.val (PV.int .i64 x7))))]) a0 a1 a2 a3 from by kernel_rfl).trans (by rw [i0]; rfl)

noncomputable def f32_bytes_Index (rec : Rec) (n : Nat) (a0 : List PV) (a1 : Int) : Option (List OV × List OV) :=
  needB (decide ((0 : Int) < ((List.length [PV.int .u8 a1] : Nat) : Int))) <|
  needB (hasT Go.Proofs.Tryd.prog 5 (nthP [PV.int .u8 a1] 0)) <|
  callB (rec 22 [OV.flat (FV.val (PV.sl none a0)), OV.flat (FV.val (PV.int .u8 (PV.toI (nthP [PV.int .u8 a1] 0))))]) fun r1 => needB (okOs Go.Proofs.Tryd.prog [3] [] (Prod.fst r1)) <|
  some ([OV.flat (FV.val (PV.int .i64 (PV.toI (FV.pv (OV.fv (List.headD (Prod.fst r1) (OV.flat FV.gone)))))))], [])

theorem f32_bytes_Index_eq (rec : Rec) (n : Nat) (a0 : List PV) (a1 : Int) : callBody C rec n 32 [OV.flat (FV.val (PV.sl none a0)), OV.flat (FV.val (PV.sl none [PV.int .u8 a1]))] = f32_bytes_Index rec n a0 a1 := by kernel_rfl

end Go.Proofs.YthkmnomnfmjffaaDoor

