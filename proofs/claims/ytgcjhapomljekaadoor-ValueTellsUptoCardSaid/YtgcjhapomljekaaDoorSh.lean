/- What the functions answer, and the laws. -/
import Derived.Test.YtgcjhapomljekaaDoorCtx

set_option linter.unusedVariables false

set_option linter.unusedSimpArgs false

set_option linter.unusedSectionVars false

open Go Go.Ev

set_option linter.unusedVariables false

set_option maxRecDepth 100000

namespace Go.Proofs.YtgcjhapomljekaaDoor

noncomputable def f4_vestrylaw07_ValueKeys (rec : Rec) (n : Nat) (a0 : Int) (a1 : Int) (a2 : List UInt8) (a3 : List PV) : Option (List OV × List OV) :=
  callB (rec 10 []) fun r1 => needB (okOs Go.Proofs.Tryd.prog [4] [] (Prod.fst r1)) <|
  callB (rec 17 [OV.flat (FV.val (PV.sl none a3))]) fun r2 => needB (okOs Go.Proofs.Tryd.prog [30] [.os] (Prod.fst r2)) <|
  callB (rec 18 [OV.flat (FV.val (PV.agg [PV.int .i64 a0, PV.int .i64 a1, PV.str a2]))]) fun r3 => needB (okOs Go.Proofs.Tryd.prog [30, 25] [.o, .v] (Prod.fst r3)) <|
  callB (rec 19 [OV.flat (FV.val (PV.sl none (FV.xs (OV.fv (List.headD (Prod.fst r2) (OV.flat FV.gone))))))]) fun r4 => needB (okOs Go.Proofs.Tryd.prog [23, 3, 25] [] (Prod.fst r4)) <|
  callB (rec 20 [OV.flat (FV.val (PV.agg [PV.int .i64 a0, PV.int .i64 a1, PV.str a2]))]) fun r5 => needB (okOs Go.Proofs.Tryd.prog [30, 25] [.o, .v] (Prod.fst r5)) <|
  callB (rec 21 [OV.flat (FV.val (PV.sl none a3))]) fun r6 => needB (okOs Go.Proofs.Tryd.prog [23, 3, 25] [] (Prod.fst r6)) <|
  callB (rec 22 [OV.flat (FV.own none (FV.xs (OV.fv (List.headD (Prod.fst r2) (OV.flat FV.gone)))) (FV.sp (OV.fv (List.headD (Prod.fst r2) (OV.flat FV.gone))))), OV.flat (FV.val (PV.sl none a3))]) fun r7 => needB (okOs Go.Proofs.Tryd.prog [4] [] (Prod.fst r7)) <|
  needB (okOuts Go.Proofs.Tryd.prog [30, 30] [.io .os, .ro] (Prod.snd r7)) <|
  needB (List.all (FV.xs (OV.fv (List.headD (Prod.fst r3) (OV.flat FV.gone)))) isByte) <|
  needB (List.all (FV.xs (OV.fv (List.headD (Prod.fst r5) (OV.flat FV.gone)))) isByte) <|
  callB (rec 23 [OV.cont .nest [FV.own none (FV.xs (OV.fv (List.headD (Prod.fst r3) (OV.flat FV.gone)))) [], FV.own none (FV.xs (OV.fv (List.headD (Prod.snd r7) (OV.flat FV.gone)))) (FV.sp (OV.fv (List.headD (Prod.snd r7) (OV.flat FV.gone))))]]) fun r8 => needB (okOs Go.Proofs.Tryd.prog [4] [] (Prod.fst r8)) <|
  ifB (PV.toB (FV.pv (OV.fv (List.headD (Prod.fst r1) (OV.flat FV.gone)))))
  (ifB (PV.toB (FV.pv (OV.fv (List.headD (Prod.fst r7) (OV.flat FV.gone)))))
  (ifB ((List.map u8Of (FV.xs (OV.fv (List.headD (Prod.fst r3) (OV.flat FV.gone))))) == (List.map u8Of (FV.xs (OV.fv (List.headD (Prod.fst r5) (OV.flat FV.gone))))))
  (ifB (PV.toB (FV.pv (OV.fv (List.headD (Prod.fst r8) (OV.flat FV.gone)))))
  (ifB (((PV.toI (List.headD (PV.cells (FV.pv (OV.fv (List.headD (Prod.fst r4) (OV.flat FV.gone))))) PV.undef)) == (PV.toI (List.headD (PV.cells (FV.pv (OV.fv (List.headD (Prod.fst r6) (OV.flat FV.gone))))) PV.undef))) && (((PV.toI (List.headD (List.tail (PV.cells (FV.pv (OV.fv (List.headD (Prod.fst r4) (OV.flat FV.gone)))))) PV.undef)) == (PV.toI (List.headD (List.tail (PV.cells (FV.pv (OV.fv (List.headD (Prod.fst r6) (OV.flat FV.gone)))))) PV.undef))) && (((PV.toS (List.headD (List.tail (List.tail (PV.cells (FV.pv (OV.fv (List.headD (Prod.fst r4) (OV.flat FV.gone))))))) PV.undef)) == (PV.toS (List.headD (List.tail (List.tail (PV.cells (FV.pv (OV.fv (List.headD (Prod.fst r6) (OV.flat FV.gone))))))) PV.undef))) && (true))))
  (ifB (PV.toI (FV.pv (OV.fv (List.headD (List.tail (Prod.fst r4)) (OV.flat FV.gone)))) == PV.toI (FV.pv (OV.fv (List.headD (List.tail (Prod.fst r6)) (OV.flat FV.gone)))))
  (ifB (PV.toI (FV.pv (OV.fv (List.headD (List.tail (Prod.fst r3)) (OV.flat FV.gone)))) == PV.toI (FV.pv (OV.fv (List.headD (List.tail (Prod.fst r5)) (OV.flat FV.gone)))))
  (some ([OV.flat (FV.val (PV.bool (PV.toI (FV.pv (OV.fv (List.headD (List.tail (List.tail (Prod.fst r4))) (OV.flat FV.gone)))) == PV.toI (FV.pv (OV.fv (List.headD (List.tail (List.tail (Prod.fst r6))) (OV.flat FV.gone)))))))], []))
  (some ([OV.flat (FV.val (PV.bool false))], [])))
  (some ([OV.flat (FV.val (PV.bool false))], [])))
  (some ([OV.flat (FV.val (PV.bool false))], [])))
  (some ([OV.flat (FV.val (PV.bool false))], [])))
  (some ([OV.flat (FV.val (PV.bool false))], [])))
  (some ([OV.flat (FV.val (PV.bool false))], [])))
  (some ([OV.flat (FV.val (PV.bool false))], []))

theorem f4_vestrylaw07_ValueKeys_eq (rec : Rec) (n : Nat) (a0 : Int) (a1 : Int) (a2 : List UInt8) (a3 : List PV) : callBody C rec n 4 [OV.flat (FV.val (PV.agg [PV.int .i64 a0, PV.int .i64 a1, PV.str a2])), OV.flat (FV.val (PV.sl none a3))] = f4_vestrylaw07_ValueKeys rec n a0 a1 a2 a3 := by kernel_rfl

noncomputable def f5_vestrylaw07_ValueRows (rec : Rec) (n : Nat) (a0 : List PV) (a1 : List PV) : Option (List OV × List OV) :=
  callB (rec 10 []) fun r1 => needB (okOs Go.Proofs.Tryd.prog [4] [] (Prod.fst r1)) <|
  needB (Nat.ble ((List.length ([] : List PV) + List.length a0) * 32) 140737488355328) <|
  needB (Nat.ble (List.length ([] : List PV) + List.length a0) 9223372036854775807) <|
  callB (rec 17 [OV.flat (FV.val (PV.sl none a1))]) fun r2 => needB (okOs Go.Proofs.Tryd.prog [30] [.os] (Prod.fst r2)) <|
  callB (rec 24 [OV.flat (FV.val (PV.sl (some 3) ([] ++ a0)))]) fun r3 => needB (okOs Go.Proofs.Tryd.prog [30, 25] [.o, .v] (Prod.fst r3)) <|
  callB (rec 25 [OV.flat (FV.val (PV.sl none (FV.xs (OV.fv (List.headD (Prod.fst r2) (OV.flat FV.gone))))))]) fun r4 => needB (okOs Go.Proofs.Tryd.prog [40, 25] [.o, .v] (Prod.fst r4)) <|
  callB (rec 26 [OV.flat (FV.val (PV.sl (some 3) a0))]) fun r5 => needB (okOs Go.Proofs.Tryd.prog [30, 25] [.o, .v] (Prod.fst r5)) <|
  callB (rec 27 [OV.flat (FV.val (PV.sl none a1))]) fun r6 => needB (okOs Go.Proofs.Tryd.prog [40, 25] [.o, .v] (Prod.fst r6)) <|
  callB (rec 28 [OV.flat (FV.val (PV.sl (some 3) ([] ++ a0))), OV.flat (FV.val (PV.sl (some 3) a0))]) fun r7 => needB (okOs Go.Proofs.Tryd.prog [4] [] (Prod.fst r7)) <|
  ifB (PV.toB (FV.pv (OV.fv (List.headD (Prod.fst r7) (OV.flat FV.gone)))))
  (callB (rec 22 [OV.flat (FV.own none (FV.xs (OV.fv (List.headD (Prod.fst r2) (OV.flat FV.gone)))) (FV.sp (OV.fv (List.headD (Prod.fst r2) (OV.flat FV.gone))))), OV.flat (FV.val (PV.sl none a1))]) fun r8 => needB (okOs Go.Proofs.Tryd.prog [4] [] (Prod.fst r8)) <|
  needB (okOuts Go.Proofs.Tryd.prog [30, 30] [.io .os, .ro] (Prod.snd r8)) <|
  ifB (PV.toB (FV.pv (OV.fv (List.headD (Prod.fst r1) (OV.flat FV.gone)))))
  (ifB (PV.toB (FV.pv (OV.fv (List.headD (Prod.fst r8) (OV.flat FV.gone)))))
  (needB (List.all (FV.xs (OV.fv (List.headD (Prod.fst r3) (OV.flat FV.gone)))) isByte) <|
  needB (List.all (FV.xs (OV.fv (List.headD (Prod.fst r5) (OV.flat FV.gone)))) isByte) <|
  ifB ((List.map u8Of (FV.xs (OV.fv (List.headD (Prod.fst r3) (OV.flat FV.gone))))) == (List.map u8Of (FV.xs (OV.fv (List.headD (Prod.fst r5) (OV.flat FV.gone))))))
  (callB (rec 28 [OV.flat (FV.val (PV.sl (some 3) (FV.xs (OV.fv (List.headD (Prod.fst r4) (OV.flat FV.gone)))))), OV.flat (FV.val (PV.sl (some 3) (FV.xs (OV.fv (List.headD (Prod.fst r6) (OV.flat FV.gone))))))]) fun r9 => needB (okOs Go.Proofs.Tryd.prog [4] [] (Prod.fst r9)) <|
  ifB (PV.toB (FV.pv (OV.fv (List.headD (Prod.fst r9) (OV.flat FV.gone)))))
  (ifB (PV.toI (FV.pv (OV.fv (List.headD (List.tail (Prod.fst r3)) (OV.flat FV.gone)))) == PV.toI (FV.pv (OV.fv (List.headD (List.tail (Prod.fst r5)) (OV.flat FV.gone)))))
  (some ([OV.flat (FV.val (PV.bool (PV.toI (FV.pv (OV.fv (List.headD (List.tail (Prod.fst r4)) (OV.flat FV.gone)))) == PV.toI (FV.pv (OV.fv (List.headD (List.tail (Prod.fst r6)) (OV.flat FV.gone)))))))], []))
  (some ([OV.flat (FV.val (PV.bool false))], [])))
  (some ([OV.flat (FV.val (PV.bool false))], [])))
  (some ([OV.flat (FV.val (PV.bool false))], [])))
  (some ([OV.flat (FV.val (PV.bool false))], [])))
  (some ([OV.flat (FV.val (PV.bool false))], [])))
  (ifB (PV.toB (FV.pv (OV.fv (List.headD (Prod.fst r1) (OV.flat FV.gone)))))
  (some ([OV.flat (FV.val (PV.bool false))], []))
  (some ([OV.flat (FV.val (PV.bool false))], [])))

theorem f5_vestrylaw07_ValueRows_eq (rec : Rec) (n : Nat) (a0 : List PV) (a1 : List PV) : callBody C rec n 5 [OV.flat (FV.val (PV.sl (some 3) a0)), OV.flat (FV.val (PV.sl none a1))] = f5_vestrylaw07_ValueRows rec n a0 a1 := by kernel_rfl

noncomputable def f6_vestrylaw07_ValueOrders (rec : Rec) (n : Nat) (a0 : Int) (a1 : Int) (a2 : List UInt8) (a3 : Int) (a4 : Int) (a5 : List UInt8) (a6 : List PV) (a7 : List PV) : Option (List OV × List OV) :=
  callB (rec 10 []) fun r1 => needB (okOs Go.Proofs.Tryd.prog [4] [] (Prod.fst r1)) <|
  callB (rec 18 [OV.flat (FV.val (PV.agg [PV.int .i64 a0, PV.int .i64 a1, PV.str a2]))]) fun r2 => needB (okOs Go.Proofs.Tryd.prog [30, 25] [.o, .v] (Prod.fst r2)) <|
  callB (rec 18 [OV.flat (FV.val (PV.agg [PV.int .i64 a3, PV.int .i64 a4, PV.str a5]))]) fun r3 => needB (okOs Go.Proofs.Tryd.prog [30, 25] [.o, .v] (Prod.fst r3)) <|
  ifB (PV.toI (FV.pv (OV.fv (List.headD (List.tail (Prod.fst r2)) (OV.flat FV.gone)))) != (0 : Int))
  (ifB (PV.toB (FV.pv (OV.fv (List.headD (Prod.fst r1) (OV.flat FV.gone)))))
  (ifB ((PV.toI (FV.pv (OV.fv (List.headD (List.tail (Prod.fst r2)) (OV.flat FV.gone)))) != (0 : Int)) == (((List.length (FV.xs (OV.fv (List.headD (Prod.fst r2) (OV.flat FV.gone)))) : Nat) : Int) == (0 : Int)))
  (some ([OV.flat (FV.val (PV.bool ((PV.toI (FV.pv (OV.fv (List.headD (List.tail (Prod.fst r3)) (OV.flat FV.gone)))) != (0 : Int)) == (((List.length (FV.xs (OV.fv (List.headD (Prod.fst r3) (OV.flat FV.gone)))) : Nat) : Int) == (0 : Int)))))], []))
  (some ([OV.flat (FV.val (PV.bool false))], [])))
  (some ([OV.flat (FV.val (PV.bool false))], [])))
  (ifB (PV.toI (FV.pv (OV.fv (List.headD (List.tail (Prod.fst r3)) (OV.flat FV.gone)))) != (0 : Int))
  (ifB (PV.toB (FV.pv (OV.fv (List.headD (Prod.fst r1) (OV.flat FV.gone)))))
  (ifB ((PV.toI (FV.pv (OV.fv (List.headD (List.tail (Prod.fst r2)) (OV.flat FV.gone)))) != (0 : Int)) == (((List.length (FV.xs (OV.fv (List.headD (Prod.fst r2) (OV.flat FV.gone)))) : Nat) : Int) == (0 : Int)))
  (some ([OV.flat (FV.val (PV.bool ((PV.toI (FV.pv (OV.fv (List.headD (List.tail (Prod.fst r3)) (OV.flat FV.gone)))) != (0 : Int)) == (((List.length (FV.xs (OV.fv (List.headD (Prod.fst r3) (OV.flat FV.gone)))) : Nat) : Int) == (0 : Int)))))], []))
  (some ([OV.flat (FV.val (PV.bool false))], [])))
  (some ([OV.flat (FV.val (PV.bool false))], [])))
  (ifB (decide (((List.length a6 : Nat) : Int) > (65536 : Int)))
  (ifB (PV.toB (FV.pv (OV.fv (List.headD (Prod.fst r1) (OV.flat FV.gone)))))
  (ifB ((PV.toI (FV.pv (OV.fv (List.headD (List.tail (Prod.fst r2)) (OV.flat FV.gone)))) != (0 : Int)) == (((List.length (FV.xs (OV.fv (List.headD (Prod.fst r2) (OV.flat FV.gone)))) : Nat) : Int) == (0 : Int)))
  (some ([OV.flat (FV.val (PV.bool ((PV.toI (FV.pv (OV.fv (List.headD (List.tail (Prod.fst r3)) (OV.flat FV.gone)))) != (0 : Int)) == (((List.length (FV.xs (OV.fv (List.headD (Prod.fst r3) (OV.flat FV.gone)))) : Nat) : Int) == (0 : Int)))))], []))
  (some ([OV.flat (FV.val (PV.bool false))], [])))
  (some ([OV.flat (FV.val (PV.bool false))], [])))
  (ifB (decide (((List.length a7 : Nat) : Int) > (65536 : Int)))
  (ifB (PV.toB (FV.pv (OV.fv (List.headD (Prod.fst r1) (OV.flat FV.gone)))))
  (ifB ((PV.toI (FV.pv (OV.fv (List.headD (List.tail (Prod.fst r2)) (OV.flat FV.gone)))) != (0 : Int)) == (((List.length (FV.xs (OV.fv (List.headD (Prod.fst r2) (OV.flat FV.gone)))) : Nat) : Int) == (0 : Int)))
  (some ([OV.flat (FV.val (PV.bool ((PV.toI (FV.pv (OV.fv (List.headD (List.tail (Prod.fst r3)) (OV.flat FV.gone)))) != (0 : Int)) == (((List.length (FV.xs (OV.fv (List.headD (Prod.fst r3) (OV.flat FV.gone)))) : Nat) : Int) == (0 : Int)))))], []))
  (some ([OV.flat (FV.val (PV.bool false))], [])))
  (some ([OV.flat (FV.val (PV.bool false))], [])))
  (needB (List.all (FV.xs (OV.fv (List.headD (Prod.fst r2) (OV.flat FV.gone)))) isByte) <|
  needB (List.all a6 isByte) <|
  needB (Nat.ble (List.length (List.map u8Of (FV.xs (OV.fv (List.headD (Prod.fst r2) (OV.flat FV.gone))))) + List.length (List.map u8Of a6)) 9223372036854775807) <|
  needB (List.all (FV.xs (OV.fv (List.headD (Prod.fst r3) (OV.flat FV.gone)))) isByte) <|
  needB (List.all a7 isByte) <|
  needB (Nat.ble (List.length (List.map u8Of (FV.xs (OV.fv (List.headD (Prod.fst r3) (OV.flat FV.gone))))) + List.length (List.map u8Of a7)) 9223372036854775807) <|
  callB (rec 13 [OV.flat (FV.val (PV.agg [PV.int .i64 a0, PV.int .i64 a1, PV.str a2])), OV.flat (FV.val (PV.agg [PV.int .i64 a3, PV.int .i64 a4, PV.str a5]))]) fun r4 => needB (okOs Go.Proofs.Tryd.prog [3] [] (Prod.fst r4)) <|
  needB (Nat.ble (List.length ((List.map u8Of (FV.xs (OV.fv (List.headD (Prod.fst r2) (OV.flat FV.gone))))) ++ (List.map u8Of a6))) 9223372036854775807) <|
  callB (rec 19 [OV.flat (FV.val (PV.sl none (List.map pvByte ((List.map u8Of (FV.xs (OV.fv (List.headD (Prod.fst r2) (OV.flat FV.gone))))) ++ (List.map u8Of a6)))))]) fun r5 => needB (okOs Go.Proofs.Tryd.prog [23, 3, 25] [] (Prod.fst r5)) <|
  ifB (PV.toI (FV.pv (OV.fv (List.headD (List.tail (List.tail (Prod.fst r5))) (OV.flat FV.gone)))) != (0 : Int))
  (some ([OV.flat (FV.val (PV.bool false))], []))
  (ifB (!(((PV.toI (List.headD (PV.cells (FV.pv (OV.fv (List.headD (Prod.fst r5) (OV.flat FV.gone))))) PV.undef)) == a0) && (((PV.toI (List.headD (List.tail (PV.cells (FV.pv (OV.fv (List.headD (Prod.fst r5) (OV.flat FV.gone)))))) PV.undef)) == a1) && (((PV.toS (List.headD (List.tail (List.tail (PV.cells (FV.pv (OV.fv (List.headD (Prod.fst r5) (OV.flat FV.gone))))))) PV.undef)) == a2) && (true)))))
  (some ([OV.flat (FV.val (PV.bool false))], []))
  (ifB (PV.toI (FV.pv (OV.fv (List.headD (List.tail (Prod.fst r5)) (OV.flat FV.gone)))) != ((List.length (FV.xs (OV.fv (List.headD (Prod.fst r2) (OV.flat FV.gone)))) : Nat) : Int))
  (some ([OV.flat (FV.val (PV.bool false))], []))
  (ifB (PV.toB (FV.pv (OV.fv (List.headD (Prod.fst r1) (OV.flat FV.gone)))))
  (ifB ((PV.toI (FV.pv (OV.fv (List.headD (Prod.fst r4) (OV.flat FV.gone)))) == (0 : Int)) == ((a0 == a3) && ((a1 == a4) && ((a2 == a5) && (true)))))
  (ifB (PV.toI (FV.pv (OV.fv (List.headD (Prod.fst r4) (OV.flat FV.gone)))) == (0 : Int))
  (some ([OV.flat (FV.val (PV.bool true))], []))
  (some ([OV.flat (FV.val (PV.bool ((Op.bytesLess ((List.map u8Of (FV.xs (OV.fv (List.headD (Prod.fst r2) (OV.flat FV.gone))))) ++ (List.map u8Of a6)) ((List.map u8Of (FV.xs (OV.fv (List.headD (Prod.fst r3) (OV.flat FV.gone))))) ++ (List.map u8Of a7))) == (decide (PV.toI (FV.pv (OV.fv (List.headD (Prod.fst r4) (OV.flat FV.gone)))) < (0 : Int))))))], [])))
  (some ([OV.flat (FV.val (PV.bool false))], [])))
  (some ([OV.flat (FV.val (PV.bool false))], [])))))))))

theorem f6_vestrylaw07_ValueOrders_eq (rec : Rec) (n : Nat) (a0 : Int) (a1 : Int) (a2 : List UInt8) (a3 : Int) (a4 : Int) (a5 : List UInt8) (a6 : List PV) (a7 : List PV) : callBody C rec n 6 [OV.flat (FV.val (PV.agg [PV.int .i64 a0, PV.int .i64 a1, PV.str a2])), OV.flat (FV.val (PV.agg [PV.int .i64 a3, PV.int .i64 a4, PV.str a5])), OV.flat (FV.val (PV.sl none a6)), OV.flat (FV.val (PV.sl none a7))] = f6_vestrylaw07_ValueOrders rec n a0 a1 a2 a3 a4 a5 a6 a7 := by kernel_rfl

noncomputable def f7_vestrylaw07_ValueBack (rec : Rec) (n : Nat) (a0 : List PV) (a1 : List PV) : Option (List OV × List OV) :=
  callB (rec 10 []) fun r1 => needB (okOs Go.Proofs.Tryd.prog [4] [] (Prod.fst r1)) <|
  callB (rec 24 [OV.flat (FV.val (PV.sl (some 3) a0))]) fun r2 => needB (okOs Go.Proofs.Tryd.prog [30, 25] [.o, .v] (Prod.fst r2)) <|
  ifB (PV.toI (FV.pv (OV.fv (List.headD (List.tail (Prod.fst r2)) (OV.flat FV.gone)))) == (0 : Int))
  (callB (rec 25 [OV.flat (FV.val (PV.sl none (FV.xs (OV.fv (List.headD (Prod.fst r2) (OV.flat FV.gone))))))]) fun r3 => needB (okOs Go.Proofs.Tryd.prog [40, 25] [.o, .v] (Prod.fst r3)) <|
  ifB (PV.toI (FV.pv (OV.fv (List.headD (List.tail (Prod.fst r3)) (OV.flat FV.gone)))) != (0 : Int))
  (some ([OV.flat (FV.val (PV.bool false))], []))
  (callB (rec 28 [OV.flat (FV.val (PV.sl (some 3) (FV.xs (OV.fv (List.headD (Prod.fst r3) (OV.flat FV.gone)))))), OV.flat (FV.val (PV.sl (some 3) a0))]) fun r4 => needB (okOs Go.Proofs.Tryd.prog [4] [] (Prod.fst r4)) <|
  ifB (!(PV.toB (FV.pv (OV.fv (List.headD (Prod.fst r4) (OV.flat FV.gone))))))
  (some ([OV.flat (FV.val (PV.bool false))], []))
  (callB (rec 25 [OV.flat (FV.val (PV.sl none a1))]) fun r5 => needB (okOs Go.Proofs.Tryd.prog [40, 25] [.o, .v] (Prod.fst r5)) <|
  ifB (PV.toI (FV.pv (OV.fv (List.headD (List.tail (Prod.fst r5)) (OV.flat FV.gone)))) != (0 : Int))
  (ifB (PV.toB (FV.pv (OV.fv (List.headD (Prod.fst r1) (OV.flat FV.gone)))))
  (some ([OV.flat (FV.val (PV.bool (((List.length (FV.xs (OV.fv (List.headD (Prod.fst r5) (OV.flat FV.gone)))) : Nat) : Int) == (0 : Int))))], []))
  (some ([OV.flat (FV.val (PV.bool false))], [])))
  (callB (rec 24 [OV.flat (FV.val (PV.sl (some 3) (FV.xs (OV.fv (List.headD (Prod.fst r5) (OV.flat FV.gone))))))]) fun r6 => needB (okOs Go.Proofs.Tryd.prog [30, 25] [.o, .v] (Prod.fst r6)) <|
  ifB (PV.toB (FV.pv (OV.fv (List.headD (Prod.fst r1) (OV.flat FV.gone)))))
  (ifB (PV.toI (FV.pv (OV.fv (List.headD (List.tail (Prod.fst r6)) (OV.flat FV.gone)))) == (0 : Int))
  (needB (List.all (FV.xs (OV.fv (List.headD (Prod.fst r6) (OV.flat FV.gone)))) isByte) <|
  needB (List.all a1 isByte) <|
  some ([OV.flat (FV.val (PV.bool ((List.map u8Of (FV.xs (OV.fv (List.headD (Prod.fst r6) (OV.flat FV.gone))))) == (List.map u8Of a1))))], []))
  (some ([OV.flat (FV.val (PV.bool false))], [])))
  (some ([OV.flat (FV.val (PV.bool false))], []))))))
  (callB (rec 25 [OV.flat (FV.val (PV.sl none a1))]) fun r7 => needB (okOs Go.Proofs.Tryd.prog [40, 25] [.o, .v] (Prod.fst r7)) <|
  ifB (PV.toI (FV.pv (OV.fv (List.headD (List.tail (Prod.fst r7)) (OV.flat FV.gone)))) != (0 : Int))
  (ifB (PV.toB (FV.pv (OV.fv (List.headD (Prod.fst r1) (OV.flat FV.gone)))))
  (some ([OV.flat (FV.val (PV.bool (((List.length (FV.xs (OV.fv (List.headD (Prod.fst r7) (OV.flat FV.gone)))) : Nat) : Int) == (0 : Int))))], []))
  (some ([OV.flat (FV.val (PV.bool false))], [])))
  (callB (rec 24 [OV.flat (FV.val (PV.sl (some 3) (FV.xs (OV.fv (List.headD (Prod.fst r7) (OV.flat FV.gone))))))]) fun r8 => needB (okOs Go.Proofs.Tryd.prog [30, 25] [.o, .v] (Prod.fst r8)) <|
  ifB (PV.toB (FV.pv (OV.fv (List.headD (Prod.fst r1) (OV.flat FV.gone)))))
  (ifB (PV.toI (FV.pv (OV.fv (List.headD (List.tail (Prod.fst r8)) (OV.flat FV.gone)))) == (0 : Int))
  (needB (List.all (FV.xs (OV.fv (List.headD (Prod.fst r8) (OV.flat FV.gone)))) isByte) <|
  needB (List.all a1 isByte) <|
  some ([OV.flat (FV.val (PV.bool ((List.map u8Of (FV.xs (OV.fv (List.headD (Prod.fst r8) (OV.flat FV.gone))))) == (List.map u8Of a1))))], []))
  (some ([OV.flat (FV.val (PV.bool false))], [])))
  (some ([OV.flat (FV.val (PV.bool false))], []))))

theorem f7_vestrylaw07_ValueBack_eq (rec : Rec) (n : Nat) (a0 : List PV) (a1 : List PV) : callBody C rec n 7 [OV.flat (FV.val (PV.sl (some 3) a0)), OV.flat (FV.val (PV.sl none a1))] = f7_vestrylaw07_ValueBack rec n a0 a1 := by kernel_rfl

noncomputable def f8_vestrylaw07_ValueSorts (rec : Rec) (n : Nat) (a0 : Int) (a1 : Int) (a2 : List UInt8) (a3 : Int) (a4 : Int) (a5 : List UInt8) (a6 : Int) (a7 : Int) (a8 : List UInt8) : Option (List OV × List OV) :=
  callB (rec 10 []) fun r1 => needB (okOs Go.Proofs.Tryd.prog [4] [] (Prod.fst r1)) <|
  callB (rec 13 [OV.flat (FV.val (PV.agg [PV.int .i64 a0, PV.int .i64 a1, PV.str a2])), OV.flat (FV.val (PV.agg [PV.int .i64 a3, PV.int .i64 a4, PV.str a5]))]) fun r2 => needB (okOs Go.Proofs.Tryd.prog [3] [] (Prod.fst r2)) <|
  callB (rec 13 [OV.flat (FV.val (PV.agg [PV.int .i64 a3, PV.int .i64 a4, PV.str a5])), OV.flat (FV.val (PV.agg [PV.int .i64 a6, PV.int .i64 a7, PV.str a8]))]) fun r3 => needB (okOs Go.Proofs.Tryd.prog [3] [] (Prod.fst r3)) <|
  callB (rec 13 [OV.flat (FV.val (PV.agg [PV.int .i64 a0, PV.int .i64 a1, PV.str a2])), OV.flat (FV.val (PV.agg [PV.int .i64 a6, PV.int .i64 a7, PV.str a8]))]) fun r4 => needB (okOs Go.Proofs.Tryd.prog [3] [] (Prod.fst r4)) <|
  ifB (decide (PV.toI (FV.pv (OV.fv (List.headD (Prod.fst r2) (OV.flat FV.gone)))) < (-1 : Int)))
  (some ([OV.flat (FV.val (PV.bool false))], []))
  (ifB (decide (PV.toI (FV.pv (OV.fv (List.headD (Prod.fst r2) (OV.flat FV.gone)))) > (1 : Int)))
  (some ([OV.flat (FV.val (PV.bool false))], []))
  (callB (rec 13 [OV.flat (FV.val (PV.agg [PV.int .i64 a3, PV.int .i64 a4, PV.str a5])), OV.flat (FV.val (PV.agg [PV.int .i64 a0, PV.int .i64 a1, PV.str a2]))]) fun r5 => needB (okOs Go.Proofs.Tryd.prog [3] [] (Prod.fst r5)) <|
  ifB (PV.toI (FV.pv (OV.fv (List.headD (Prod.fst r5) (OV.flat FV.gone)))) != IntKind.wrap .i64 ((0 : Int) - PV.toI (FV.pv (OV.fv (List.headD (Prod.fst r2) (OV.flat FV.gone))))))
  (some ([OV.flat (FV.val (PV.bool false))], []))
  (ifB (!((PV.toI (FV.pv (OV.fv (List.headD (Prod.fst r2) (OV.flat FV.gone)))) == (0 : Int)) == ((a0 == a3) && ((a1 == a4) && ((a2 == a5) && (true))))))
  (some ([OV.flat (FV.val (PV.bool false))], []))
  (ifB (PV.toB (FV.pv (OV.fv (List.headD (Prod.fst r1) (OV.flat FV.gone)))))
  (ifB (decide (PV.toI (FV.pv (OV.fv (List.headD (Prod.fst r2) (OV.flat FV.gone)))) > (0 : Int)))
  (some ([OV.flat (FV.val (PV.bool true))], []))
  (ifB (decide (PV.toI (FV.pv (OV.fv (List.headD (Prod.fst r3) (OV.flat FV.gone)))) > (0 : Int)))
  (some ([OV.flat (FV.val (PV.bool true))], []))
  (ifB (decide (PV.toI (FV.pv (OV.fv (List.headD (Prod.fst r4) (OV.flat FV.gone)))) ≤ (0 : Int)))
  (ifB (PV.toI (FV.pv (OV.fv (List.headD (Prod.fst r2) (OV.flat FV.gone)))) == (0 : Int))
  (ifB (PV.toI (FV.pv (OV.fv (List.headD (Prod.fst r3) (OV.flat FV.gone)))) == (0 : Int))
  (some ([OV.flat (FV.val (PV.bool true))], []))
  (some ([OV.flat (FV.val (PV.bool (decide (PV.toI (FV.pv (OV.fv (List.headD (Prod.fst r4) (OV.flat FV.gone)))) < (0 : Int)))))], [])))
  (some ([OV.flat (FV.val (PV.bool (decide (PV.toI (FV.pv (OV.fv (List.headD (Prod.fst r4) (OV.flat FV.gone)))) < (0 : Int)))))], [])))
  (some ([OV.flat (FV.val (PV.bool false))], [])))))
  (some ([OV.flat (FV.val (PV.bool false))], []))))))

theorem f8_vestrylaw07_ValueSorts_eq (rec : Rec) (n : Nat) (a0 : Int) (a1 : Int) (a2 : List UInt8) (a3 : Int) (a4 : Int) (a5 : List UInt8) (a6 : Int) (a7 : Int) (a8 : List UInt8) : callBody C rec n 8 [OV.flat (FV.val (PV.agg [PV.int .i64 a0, PV.int .i64 a1, PV.str a2])), OV.flat (FV.val (PV.agg [PV.int .i64 a3, PV.int .i64 a4, PV.str a5])), OV.flat (FV.val (PV.agg [PV.int .i64 a6, PV.int .i64 a7, PV.str a8]))] = f8_vestrylaw07_ValueSorts rec n a0 a1 a2 a3 a4 a5 a6 a7 a8 := by kernel_rfl

noncomputable def f9_vestrylaw07_ValueKinds (rec : Rec) (n : Nat) (a0 : Int) (a1 : List UInt8) : Option (List OV × List OV) :=
  callB (rec 10 []) fun r1 => needB (okOs Go.Proofs.Tryd.prog [4] [] (Prod.fst r1)) <|
  callB (rec 11 [OV.flat (FV.val (PV.agg [PV.int .i64 (0 : Int), PV.int .i64 (0 : Int), PV.str ([] : List UInt8)]))]) fun r2 => needB (okOs Go.Proofs.Tryd.prog [25] [] (Prod.fst r2)) <|
  ifB (PV.toI (FV.pv (OV.fv (List.headD (Prod.fst r2) (OV.flat FV.gone)))) == (0 : Int))
  (callB (rec 11 [OV.flat (FV.val (PV.agg [PV.int .i64 (1 : Int), PV.int .i64 a0, PV.str ([] : List UInt8)]))]) fun r3 => needB (okOs Go.Proofs.Tryd.prog [25] [] (Prod.fst r3)) <|
  ifB (PV.toI (FV.pv (OV.fv (List.headD (Prod.fst r3) (OV.flat FV.gone)))) == (0 : Int))
  (callB (rec 11 [OV.flat (FV.val (PV.agg [PV.int .i64 (2 : Int), PV.int .i64 (0 : Int), PV.str a1]))]) fun r4 => needB (okOs Go.Proofs.Tryd.prog [25] [] (Prod.fst r4)) <|
  ifB (PV.toB (FV.pv (OV.fv (List.headD (Prod.fst r1) (OV.flat FV.gone)))))
  (ifB ((PV.toI (FV.pv (OV.fv (List.headD (Prod.fst r4) (OV.flat FV.gone)))) == (0 : Int)) == (decide (((List.length a1 : Nat) : Int) ≤ (40 : Int))))
  (callB (rec 13 [OV.flat (FV.val (PV.agg [PV.int .i64 (0 : Int), PV.int .i64 (0 : Int), PV.str ([] : List UInt8)])), OV.flat (FV.val (PV.agg [PV.int .i64 (1 : Int), PV.int .i64 a0, PV.str ([] : List UInt8)]))]) fun r5 => needB (okOs Go.Proofs.Tryd.prog [3] [] (Prod.fst r5)) <|
  ifB (PV.toI (FV.pv (OV.fv (List.headD (Prod.fst r5) (OV.flat FV.gone)))) == (-1 : Int))
  (callB (rec 13 [OV.flat (FV.val (PV.agg [PV.int .i64 (1 : Int), PV.int .i64 a0, PV.str ([] : List UInt8)])), OV.flat (FV.val (PV.agg [PV.int .i64 (2 : Int), PV.int .i64 (0 : Int), PV.str a1]))]) fun r6 => needB (okOs Go.Proofs.Tryd.prog [3] [] (Prod.fst r6)) <|
  ifB (PV.toI (FV.pv (OV.fv (List.headD (Prod.fst r6) (OV.flat FV.gone)))) == (-1 : Int))
  (callB (rec 13 [OV.flat (FV.val (PV.agg [PV.int .i64 (2 : Int), PV.int .i64 (0 : Int), PV.str a1])), OV.flat (FV.val (PV.agg [PV.int .i64 (0 : Int), PV.int .i64 (0 : Int), PV.str ([] : List UInt8)]))]) fun r7 => needB (okOs Go.Proofs.Tryd.prog [3] [] (Prod.fst r7)) <|
  ifB (PV.toI (FV.pv (OV.fv (List.headD (Prod.fst r7) (OV.flat FV.gone)))) == (1 : Int))
  (callB (rec 15 [OV.flat (FV.val (PV.agg [PV.int .i64 (0 : Int), PV.int .i64 (0 : Int), PV.str ([] : List UInt8)]))]) fun r8 => needB (okOs Go.Proofs.Tryd.prog [9] [] (Prod.fst r8)) <|
  some ([OV.flat (FV.val (PV.bool ((PV.toS (FV.pv (OV.fv (List.headD (Prod.fst r8) (OV.flat FV.gone))))) == ([78, 85, 76, 76] : List UInt8))))], []))
  (some ([OV.flat (FV.val (PV.bool false))], [])))
  (some ([OV.flat (FV.val (PV.bool false))], [])))
  (some ([OV.flat (FV.val (PV.bool false))], [])))
  (some ([OV.flat (FV.val (PV.bool false))], [])))
  (some ([OV.flat (FV.val (PV.bool false))], [])))
  (ifB (PV.toB (FV.pv (OV.fv (List.headD (Prod.fst r1) (OV.flat FV.gone)))))
  (some ([OV.flat (FV.val (PV.bool false))], []))
  (some ([OV.flat (FV.val (PV.bool false))], []))))
  (ifB (PV.toB (FV.pv (OV.fv (List.headD (Prod.fst r1) (OV.flat FV.gone)))))
  (some ([OV.flat (FV.val (PV.bool false))], []))
  (some ([OV.flat (FV.val (PV.bool false))], [])))

theorem f9_vestrylaw07_ValueKinds_eq (rec : Rec) (n : Nat) (a0 : Int) (a1 : List UInt8) : callBody C rec n 9 [OV.flat (FV.val (PV.int .i64 a0)), OV.flat (FV.val (PV.str a1))] = f9_vestrylaw07_ValueKinds rec n a0 a1 := by kernel_rfl

noncomputable def f10_vestrylaw07_small (rec : Rec) (n : Nat)  : Option (List OV × List OV) :=
  callB (rec 29 [OV.flat (FV.val (PV.str ([97] : List UInt8)))]) fun r1 => needB (okOs Go.Proofs.Tryd.prog [23] [] (Prod.fst r1)) <|
  callB (rec 24 [OV.flat (FV.val (PV.sl (some 3) [PV.agg [PV.int .i64 (0 : Int), PV.int .i64 (0 : Int), PV.str ([] : List UInt8)], PV.agg [PV.int .i64 (PV.toI (List.headD (PV.cells (FV.pv (OV.fv (List.headD (Prod.fst r1) (OV.flat FV.gone))))) PV.undef)), PV.int .i64 (PV.toI (List.headD (List.tail (PV.cells (FV.pv (OV.fv (List.headD (Prod.fst r1) (OV.flat FV.gone)))))) PV.undef)), PV.str (PV.toS (List.headD (List.tail (List.tail (PV.cells (FV.pv (OV.fv (List.headD (Prod.fst r1) (OV.flat FV.gone))))))) PV.undef))]]))]) fun r2 => needB (okOs Go.Proofs.Tryd.prog [30, 25] [.o, .v] (Prod.fst r2)) <|
  callB (rec 25 [OV.flat (FV.val (PV.sl none (FV.xs (OV.fv (List.headD (Prod.fst r2) (OV.flat FV.gone))))))]) fun r3 => needB (okOs Go.Proofs.Tryd.prog [40, 25] [.o, .v] (Prod.fst r3)) <|
  ifB (PV.toI (FV.pv (OV.fv (List.headD (List.tail (Prod.fst r2)) (OV.flat FV.gone)))) == (0 : Int))
  (needB (List.all (FV.xs (OV.fv (List.headD (Prod.fst r2) (OV.flat FV.gone)))) isByte) <|
  ifB ((List.map u8Of (FV.xs (OV.fv (List.headD (Prod.fst r2) (OV.flat FV.gone))))) == ([0, 2, 97, 0, 0] : List UInt8))
  (ifB (PV.toI (FV.pv (OV.fv (List.headD (List.tail (Prod.fst r3)) (OV.flat FV.gone)))) == (0 : Int))
  (ifB (((List.length (FV.xs (OV.fv (List.headD (Prod.fst r3) (OV.flat FV.gone)))) : Nat) : Int) == (2 : Int))
  (needB (decide ((1 : Int) < ((List.length (FV.xs (OV.fv (List.headD (Prod.fst r3) (OV.flat FV.gone)))) : Nat) : Int))) <|
  needB (Nat.blt 1 (List.length (FV.xs (OV.fv (List.headD (Prod.fst r3) (OV.flat FV.gone)))))) <|
  needB (hasT Go.Proofs.Tryd.prog 23 (nthP (FV.xs (OV.fv (List.headD (Prod.fst r3) (OV.flat FV.gone)))) 1)) <|
  callB (rec 29 [OV.flat (FV.val (PV.str ([97] : List UInt8)))]) fun r4 => needB (okOs Go.Proofs.Tryd.prog [23] [] (Prod.fst r4)) <|
  ifB (((PV.toI (List.headD (PV.cells (nthP (FV.xs (OV.fv (List.headD (Prod.fst r3) (OV.flat FV.gone)))) 1)) PV.undef)) == (PV.toI (List.headD (PV.cells (FV.pv (OV.fv (List.headD (Prod.fst r4) (OV.flat FV.gone))))) PV.undef))) && (((PV.toI (List.headD (List.tail (PV.cells (nthP (FV.xs (OV.fv (List.headD (Prod.fst r3) (OV.flat FV.gone)))) 1))) PV.undef)) == (PV.toI (List.headD (List.tail (PV.cells (FV.pv (OV.fv (List.headD (Prod.fst r4) (OV.flat FV.gone)))))) PV.undef))) && (((PV.toS (List.headD (List.tail (List.tail (PV.cells (nthP (FV.xs (OV.fv (List.headD (Prod.fst r3) (OV.flat FV.gone)))) 1)))) PV.undef)) == (PV.toS (List.headD (List.tail (List.tail (PV.cells (FV.pv (OV.fv (List.headD (Prod.fst r4) (OV.flat FV.gone))))))) PV.undef))) && (true))))
  (callB (rec 30 [OV.flat (FV.val (PV.int .i64 (-5 : Int)))]) fun r5 => needB (okOs Go.Proofs.Tryd.prog [23] [] (Prod.fst r5)) <|
  callB (rec 29 [OV.flat (FV.val (PV.str ([] : List UInt8)))]) fun r6 => needB (okOs Go.Proofs.Tryd.prog [23] [] (Prod.fst r6)) <|
  callB (rec 13 [OV.flat (FV.val (PV.agg [PV.int .i64 (PV.toI (List.headD (PV.cells (FV.pv (OV.fv (List.headD (Prod.fst r5) (OV.flat FV.gone))))) PV.undef)), PV.int .i64 (PV.toI (List.headD (List.tail (PV.cells (FV.pv (OV.fv (List.headD (Prod.fst r5) (OV.flat FV.gone)))))) PV.undef)), PV.str (PV.toS (List.headD (List.tail (List.tail (PV.cells (FV.pv (OV.fv (List.headD (Prod.fst r5) (OV.flat FV.gone))))))) PV.undef))])), OV.flat (FV.val (PV.agg [PV.int .i64 (PV.toI (List.headD (PV.cells (FV.pv (OV.fv (List.headD (Prod.fst r6) (OV.flat FV.gone))))) PV.undef)), PV.int .i64 (PV.toI (List.headD (List.tail (PV.cells (FV.pv (OV.fv (List.headD (Prod.fst r6) (OV.flat FV.gone)))))) PV.undef)), PV.str (PV.toS (List.headD (List.tail (List.tail (PV.cells (FV.pv (OV.fv (List.headD (Prod.fst r6) (OV.flat FV.gone))))))) PV.undef))]))]) fun r7 => needB (okOs Go.Proofs.Tryd.prog [3] [] (Prod.fst r7)) <|
  ifB (PV.toI (FV.pv (OV.fv (List.headD (Prod.fst r7) (OV.flat FV.gone)))) == (-1 : Int))
  (callB (rec 29 [OV.flat (FV.val (PV.str ([105, 116, 39, 115] : List UInt8)))]) fun r8 => needB (okOs Go.Proofs.Tryd.prog [23] [] (Prod.fst r8)) <|
  callB (rec 15 [OV.flat (FV.val (PV.agg [PV.int .i64 (PV.toI (List.headD (PV.cells (FV.pv (OV.fv (List.headD (Prod.fst r8) (OV.flat FV.gone))))) PV.undef)), PV.int .i64 (PV.toI (List.headD (List.tail (PV.cells (FV.pv (OV.fv (List.headD (Prod.fst r8) (OV.flat FV.gone)))))) PV.undef)), PV.str (PV.toS (List.headD (List.tail (List.tail (PV.cells (FV.pv (OV.fv (List.headD (Prod.fst r8) (OV.flat FV.gone))))))) PV.undef))]))]) fun r9 => needB (okOs Go.Proofs.Tryd.prog [9] [] (Prod.fst r9)) <|
  some ([OV.flat (FV.val (PV.bool ((PV.toS (FV.pv (OV.fv (List.headD (Prod.fst r9) (OV.flat FV.gone))))) == ([39, 105, 116, 39, 39, 115, 39] : List UInt8))))], []))
  (some ([OV.flat (FV.val (PV.bool false))], [])))
  (some ([OV.flat (FV.val (PV.bool false))], [])))
  (some ([OV.flat (FV.val (PV.bool false))], [])))
  (some ([OV.flat (FV.val (PV.bool false))], [])))
  (some ([OV.flat (FV.val (PV.bool false))], [])))
  (some ([OV.flat (FV.val (PV.bool false))], []))

theorem f10_vestrylaw07_small_eq (rec : Rec) (n : Nat)  : callBody C rec n 10 [] = f10_vestrylaw07_small rec n  := by kernel_rfl

noncomputable def f11_value_Right (rec : Rec) (n : Nat) (a0 : Int) (a1 : Int) (a2 : List UInt8) : Option (List OV × List OV) :=
  ifB (decide (a0 < (0 : Int)))
  (some ([OV.flat (FV.val (PV.int .i64 (4 : Int)))], []))
  (ifB (decide (a0 > (2 : Int)))
  (some ([OV.flat (FV.val (PV.int .i64 (4 : Int)))], []))
  (callB (rec 31 [OV.flat (FV.val (PV.agg [PV.int .i64 a0, PV.int .i64 a1, PV.str a2]))]) fun r1 => needB (okOs Go.Proofs.Tryd.prog [23] [] (Prod.fst r1)) <|
  ifB (!((a0 == (PV.toI (List.headD (PV.cells (FV.pv (OV.fv (List.headD (Prod.fst r1) (OV.flat FV.gone))))) PV.undef))) && ((a1 == (PV.toI (List.headD (List.tail (PV.cells (FV.pv (OV.fv (List.headD (Prod.fst r1) (OV.flat FV.gone)))))) PV.undef))) && ((a2 == (PV.toS (List.headD (List.tail (List.tail (PV.cells (FV.pv (OV.fv (List.headD (Prod.fst r1) (OV.flat FV.gone))))))) PV.undef))) && (true)))))
  (some ([OV.flat (FV.val (PV.int .i64 (4 : Int)))], []))
  (ifB (decide (((List.length a2 : Nat) : Int) > (40 : Int)))
  (some ([OV.flat (FV.val (PV.int .i64 (2 : Int)))], []))
  (some ([OV.flat (FV.val (PV.int .i64 (0 : Int)))], [])))))

theorem f11_value_Right_eq (rec : Rec) (n : Nat) (a0 : Int) (a1 : Int) (a2 : List UInt8) : callBody C rec n 11 [OV.flat (FV.val (PV.agg [PV.int .i64 a0, PV.int .i64 a1, PV.str a2]))] = f11_value_Right rec n a0 a1 a2 := by kernel_rfl

noncomputable def f12_vestryref07_Right (rec : Rec) (n : Nat) (a0 : Int) (a1 : Int) (a2 : List UInt8) : Option (List OV × List OV) :=
  ifB (decide (a0 < (0 : Int)))
  (some ([OV.flat (FV.val (PV.int .i64 (4 : Int)))], []))
  (ifB (decide (a0 > (2 : Int)))
  (some ([OV.flat (FV.val (PV.int .i64 (4 : Int)))], []))
  (ifB (a0 != (1 : Int))
  (ifB (a1 != (0 : Int))
  (some ([OV.flat (FV.val (PV.int .i64 (4 : Int)))], []))
  (ifB (a0 != (2 : Int))
  (ifB (!(a2 == ([] : List UInt8)))
  (some ([OV.flat (FV.val (PV.int .i64 (4 : Int)))], []))
  (ifB (decide (((List.length a2 : Nat) : Int) > (40 : Int)))
  (some ([OV.flat (FV.val (PV.int .i64 (2 : Int)))], []))
  (some ([OV.flat (FV.val (PV.int .i64 (0 : Int)))], []))))
  (ifB (decide (((List.length a2 : Nat) : Int) > (40 : Int)))
  (some ([OV.flat (FV.val (PV.int .i64 (2 : Int)))], []))
  (some ([OV.flat (FV.val (PV.int .i64 (0 : Int)))], [])))))
  (ifB (a0 != (2 : Int))
  (ifB (!(a2 == ([] : List UInt8)))
  (some ([OV.flat (FV.val (PV.int .i64 (4 : Int)))], []))
  (ifB (decide (((List.length a2 : Nat) : Int) > (40 : Int)))
  (some ([OV.flat (FV.val (PV.int .i64 (2 : Int)))], []))
  (some ([OV.flat (FV.val (PV.int .i64 (0 : Int)))], []))))
  (ifB (decide (((List.length a2 : Nat) : Int) > (40 : Int)))
  (some ([OV.flat (FV.val (PV.int .i64 (2 : Int)))], []))
  (some ([OV.flat (FV.val (PV.int .i64 (0 : Int)))], []))))))

theorem f12_vestryref07_Right_eq (rec : Rec) (n : Nat) (a0 : Int) (a1 : Int) (a2 : List UInt8) : callBody C rec n 12 [OV.flat (FV.val (PV.agg [PV.int .i64 a0, PV.int .i64 a1, PV.str a2]))] = f12_vestryref07_Right rec n a0 a1 a2 := by kernel_rfl

noncomputable def f13_value_Compare (rec : Rec) (n : Nat) (a0 : Int) (a1 : Int) (a2 : List UInt8) (a3 : Int) (a4 : Int) (a5 : List UInt8) : Option (List OV × List OV) :=
  callB (rec 33 [OV.flat (FV.val (PV.int .i64 a0)), OV.flat (FV.val (PV.int .i64 a3))]) fun r1 => needB (okOs Go.Proofs.Tryd.prog [3] [] (Prod.fst r1)) <|
  callB (rec 33 [OV.flat (FV.val (PV.int .i64 a1)), OV.flat (FV.val (PV.int .i64 a4))]) fun r2 => needB (okOs Go.Proofs.Tryd.prog [3] [] (Prod.fst r2)) <|
  callB (rec 34 [OV.flat (FV.val (PV.str a2)), OV.flat (FV.val (PV.str a5))]) fun r3 => needB (okOs Go.Proofs.Tryd.prog [3] [] (Prod.fst r3)) <|
  callB (rec 32 [OV.flat (FV.val (PV.sl none [PV.int .i64 (PV.toI (FV.pv (OV.fv (List.headD (Prod.fst r1) (OV.flat FV.gone))))), PV.int .i64 (PV.toI (FV.pv (OV.fv (List.headD (Prod.fst r2) (OV.flat FV.gone))))), PV.int .i64 (PV.toI (FV.pv (OV.fv (List.headD (Prod.fst r3) (OV.flat FV.gone)))))]))]) fun r4 => needB (okOs Go.Proofs.Tryd.prog [3] [] (Prod.fst r4)) <|
  some ([OV.flat (FV.val (PV.int .i64 (PV.toI (FV.pv (OV.fv (List.headD (Prod.fst r4) (OV.flat FV.gone)))))))], [])

theorem f13_value_Compare_eq (rec : Rec) (n : Nat) (a0 : Int) (a1 : Int) (a2 : List UInt8) (a3 : Int) (a4 : Int) (a5 : List UInt8) : callBody C rec n 13 [OV.flat (FV.val (PV.agg [PV.int .i64 a0, PV.int .i64 a1, PV.str a2])), OV.flat (FV.val (PV.agg [PV.int .i64 a3, PV.int .i64 a4, PV.str a5]))] = f13_value_Compare rec n a0 a1 a2 a3 a4 a5 := by kernel_rfl

noncomputable def f14_vestryref07_Compare (rec : Rec) (n : Nat) (a0 : Int) (a1 : Int) (a2 : List UInt8) (a3 : Int) (a4 : Int) (a5 : List UInt8) : Option (List OV × List OV) :=
  ifB ((a0 == a3) && ((a1 == a4) && ((a2 == a5) && (true))))
  (some ([OV.flat (FV.val (PV.int .i64 (0 : Int)))], []))
  (ifB (decide (a0 < a3))
  (some ([OV.flat (FV.val (PV.int .i64 (-1 : Int)))], []))
  (ifB (a0 == a3)
  (ifB (decide (a1 < a4))
  (some ([OV.flat (FV.val (PV.int .i64 (-1 : Int)))], []))
  (ifB (a1 == a4)
  (ifB (Op.bytesLess a2 a5)
  (some ([OV.flat (FV.val (PV.int .i64 (-1 : Int)))], []))
  (some ([OV.flat (FV.val (PV.int .i64 (1 : Int)))], [])))
  (some ([OV.flat (FV.val (PV.int .i64 (1 : Int)))], []))))
  (some ([OV.flat (FV.val (PV.int .i64 (1 : Int)))], []))))

theorem f14_vestryref07_Compare_eq (rec : Rec) (n : Nat) (a0 : Int) (a1 : Int) (a2 : List UInt8) (a3 : Int) (a4 : Int) (a5 : List UInt8) : callBody C rec n 14 [OV.flat (FV.val (PV.agg [PV.int .i64 a0, PV.int .i64 a1, PV.str a2])), OV.flat (FV.val (PV.agg [PV.int .i64 a3, PV.int .i64 a4, PV.str a5]))] = f14_vestryref07_Compare rec n a0 a1 a2 a3 a4 a5 := by kernel_rfl

noncomputable def f15_value_Literal (rec : Rec) (n : Nat) (a0 : Int) (a1 : Int) (a2 : List UInt8) : Option (List OV × List OV) :=
  ifB (a0 == (1 : Int))
  (callB (rec 35 [OV.flat (FV.val (PV.int .i64 a1))]) fun r1 => needB (okOs Go.Proofs.Tryd.prog [9] [] (Prod.fst r1)) <|
  some ([OV.flat (FV.val (PV.str (PV.toS (FV.pv (OV.fv (List.headD (Prod.fst r1) (OV.flat FV.gone)))))))], []))
  (ifB (a0 == (2 : Int))
  (callB (rec 36 [OV.flat (FV.val (PV.str a2)), OV.flat (FV.val (PV.str ([39] : List UInt8))), OV.flat (FV.val (PV.str ([39, 39] : List UInt8)))]) fun r2 => needB (okOs Go.Proofs.Tryd.prog [9] [] (Prod.fst r2)) <|
  needB (Nat.ble (List.length ([39] : List UInt8) + List.length (PV.toS (FV.pv (OV.fv (List.headD (Prod.fst r2) (OV.flat FV.gone)))))) 9223372036854775807) <|
  needB (Nat.ble (List.length (([39] : List UInt8) ++ (PV.toS (FV.pv (OV.fv (List.headD (Prod.fst r2) (OV.flat FV.gone)))))) + List.length ([39] : List UInt8)) 9223372036854775807) <|
  some ([OV.flat (FV.val (PV.str ((([39] : List UInt8) ++ (PV.toS (FV.pv (OV.fv (List.headD (Prod.fst r2) (OV.flat FV.gone)))))) ++ ([39] : List UInt8))))], []))
  (some ([OV.flat (FV.val (PV.str ([78, 85, 76, 76] : List UInt8)))], [])))

theorem f15_value_Literal_eq (rec : Rec) (n : Nat) (a0 : Int) (a1 : Int) (a2 : List UInt8) : callBody C rec n 15 [OV.flat (FV.val (PV.agg [PV.int .i64 a0, PV.int .i64 a1, PV.str a2]))] = f15_value_Literal rec n a0 a1 a2 := by kernel_rfl

noncomputable def f18_value_Key (rec : Rec) (n : Nat) (a0 : Int) (a1 : Int) (a2 : List UInt8) : Option (List OV × List OV) :=
  callB (rec 11 [OV.flat (FV.val (PV.agg [PV.int .i64 a0, PV.int .i64 a1, PV.str a2]))]) fun r1 => needB (okOs Go.Proofs.Tryd.prog [25] [] (Prod.fst r1)) <|
  ifB (PV.toI (FV.pv (OV.fv (List.headD (Prod.fst r1) (OV.flat FV.gone)))) != (0 : Int))
  (some ([OV.flat (FV.own none [] []), OV.flat (FV.val (PV.int .i64 (PV.toI (FV.pv (OV.fv (List.headD (Prod.fst r1) (OV.flat FV.gone)))))))], []))
  (ifB (a0 == (1 : Int))
  (callB (rec 38 [OV.flat (FV.val (PV.int .i64 a1))]) fun r2 => needB (okOs Go.Proofs.Tryd.prog [30] [.o] (Prod.fst r2)) <|
  needB (Nat.ble ((List.length [PV.int .u8 (IntKind.wrap .u8 a0)] + List.length (FV.xs (OV.fv (List.headD (Prod.fst r2) (OV.flat FV.gone))))) * 1) 140737488355328) <|
  needB (Nat.ble (List.length [PV.int .u8 (IntKind.wrap .u8 a0)] + List.length (FV.xs (OV.fv (List.headD (Prod.fst r2) (OV.flat FV.gone))))) 9223372036854775807) <|
  some ([OV.flat (FV.own none ([PV.int .u8 (IntKind.wrap .u8 a0)] ++ (FV.xs (OV.fv (List.headD (Prod.fst r2) (OV.flat FV.gone))))) []), OV.flat (FV.val (PV.int .i64 (0 : Int)))], []))
  (ifB (a0 == (2 : Int))
  (callB (rec 39 [OV.flat (FV.val (PV.str a2))]) fun r3 => needB (okOs Go.Proofs.Tryd.prog [30] [.o] (Prod.fst r3)) <|
  needB (Nat.ble ((List.length [PV.int .u8 (IntKind.wrap .u8 a0)] + List.length (FV.xs (OV.fv (List.headD (Prod.fst r3) (OV.flat FV.gone))))) * 1) 140737488355328) <|
  needB (Nat.ble (List.length [PV.int .u8 (IntKind.wrap .u8 a0)] + List.length (FV.xs (OV.fv (List.headD (Prod.fst r3) (OV.flat FV.gone))))) 9223372036854775807) <|
  some ([OV.flat (FV.own none ([PV.int .u8 (IntKind.wrap .u8 a0)] ++ (FV.xs (OV.fv (List.headD (Prod.fst r3) (OV.flat FV.gone))))) []), OV.flat (FV.val (PV.int .i64 (0 : Int)))], []))
  (some ([OV.flat (FV.own none [PV.int .u8 (IntKind.wrap .u8 a0)] []), OV.flat (FV.val (PV.int .i64 (0 : Int)))], []))))

theorem f18_value_Key_eq (rec : Rec) (n : Nat) (a0 : Int) (a1 : Int) (a2 : List UInt8) : callBody C rec n 18 [OV.flat (FV.val (PV.agg [PV.int .i64 a0, PV.int .i64 a1, PV.str a2]))] = f18_value_Key rec n a0 a1 a2 := by kernel_rfl

noncomputable def f19_value_TakeKey (rec : Rec) (n : Nat) (a0 : List PV) : Option (List OV × List OV) :=
  ifB (((List.length a0 : Nat) : Int) == (0 : Int))
  (some ([OV.flat (FV.val (PV.agg [PV.int .i64 (0 : Int), PV.int .i64 (0 : Int), PV.str ([] : List UInt8)])), OV.flat (FV.val (PV.int .i64 (0 : Int))), OV.flat (FV.val (PV.int .i64 (3 : Int)))], []))
  (needB (decide ((0 : Int) < ((List.length a0 : Nat) : Int))) <|
  needB (hasT Go.Proofs.Tryd.prog 5 (nthP a0 0)) <|
  ifB (IntKind.wrap .i64 (PV.toI (nthP a0 0)) == (0 : Int))
  (some ([OV.flat (FV.val (PV.agg [PV.int .i64 (IntKind.wrap .i64 (PV.toI (nthP a0 0))), PV.int .i64 (0 : Int), PV.str ([] : List UInt8)])), OV.flat (FV.val (PV.int .i64 (1 : Int))), OV.flat (FV.val (PV.int .i64 (0 : Int)))], []))
  (ifB (IntKind.wrap .i64 (PV.toI (nthP a0 0)) == (1 : Int))
  (needB (decide ((1 : Int) ≤ ((List.length a0 : Nat) : Int))) <|
  callB (rec 40 [OV.flat (FV.val (PV.sl none (List.drop 1 a0)))]) fun r1 => needB (okOs Go.Proofs.Tryd.prog [3, 3, 25] [] (Prod.fst r1)) <|
  ifB (PV.toI (FV.pv (OV.fv (List.headD (List.tail (List.tail (Prod.fst r1))) (OV.flat FV.gone)))) != (0 : Int))
  (some ([OV.flat (FV.val (PV.agg [PV.int .i64 (0 : Int), PV.int .i64 (0 : Int), PV.str ([] : List UInt8)])), OV.flat (FV.val (PV.int .i64 (0 : Int))), OV.flat (FV.val (PV.int .i64 (PV.toI (FV.pv (OV.fv (List.headD (List.tail (List.tail (Prod.fst r1))) (OV.flat FV.gone)))))))], []))
  (some ([OV.flat (FV.val (PV.agg [PV.int .i64 (IntKind.wrap .i64 (PV.toI (nthP a0 0))), PV.int .i64 (PV.toI (FV.pv (OV.fv (List.headD (Prod.fst r1) (OV.flat FV.gone))))), PV.str ([] : List UInt8)])), OV.flat (FV.val (PV.int .i64 (IntKind.wrap .i64 ((1 : Int) + PV.toI (FV.pv (OV.fv (List.headD (List.tail (Prod.fst r1)) (OV.flat FV.gone)))))))), OV.flat (FV.val (PV.int .i64 (0 : Int)))], [])))
  (ifB (IntKind.wrap .i64 (PV.toI (nthP a0 0)) == (2 : Int))
  (needB (decide ((1 : Int) ≤ ((List.length a0 : Nat) : Int))) <|
  callB (rec 41 [OV.flat (FV.val (PV.sl none (List.drop 1 a0)))]) fun r2 => needB (okOs Go.Proofs.Tryd.prog [9, 3, 25] [] (Prod.fst r2)) <|
  ifB (decide (((List.length (PV.toS (FV.pv (OV.fv (List.headD (Prod.fst r2) (OV.flat FV.gone))))) : Nat) : Int) > (40 : Int)))
  (some ([OV.flat (FV.val (PV.agg [PV.int .i64 (0 : Int), PV.int .i64 (0 : Int), PV.str ([] : List UInt8)])), OV.flat (FV.val (PV.int .i64 (0 : Int))), OV.flat (FV.val (PV.int .i64 (2 : Int)))], []))
  (ifB (PV.toI (FV.pv (OV.fv (List.headD (List.tail (List.tail (Prod.fst r2))) (OV.flat FV.gone)))) != (0 : Int))
  (some ([OV.flat (FV.val (PV.agg [PV.int .i64 (0 : Int), PV.int .i64 (0 : Int), PV.str ([] : List UInt8)])), OV.flat (FV.val (PV.int .i64 (0 : Int))), OV.flat (FV.val (PV.int .i64 (PV.toI (FV.pv (OV.fv (List.headD (List.tail (List.tail (Prod.fst r2))) (OV.flat FV.gone)))))))], []))
  (some ([OV.flat (FV.val (PV.agg [PV.int .i64 (IntKind.wrap .i64 (PV.toI (nthP a0 0))), PV.int .i64 (0 : Int), PV.str (PV.toS (FV.pv (OV.fv (List.headD (Prod.fst r2) (OV.flat FV.gone)))))])), OV.flat (FV.val (PV.int .i64 (IntKind.wrap .i64 ((1 : Int) + PV.toI (FV.pv (OV.fv (List.headD (List.tail (Prod.fst r2)) (OV.flat FV.gone)))))))), OV.flat (FV.val (PV.int .i64 (0 : Int)))], []))))
  (some ([OV.flat (FV.val (PV.agg [PV.int .i64 (0 : Int), PV.int .i64 (0 : Int), PV.str ([] : List UInt8)])), OV.flat (FV.val (PV.int .i64 (0 : Int))), OV.flat (FV.val (PV.int .i64 (4 : Int)))], [])))))

theorem f19_value_TakeKey_eq (rec : Rec) (n : Nat) (a0 : List PV) : callBody C rec n 19 [OV.flat (FV.val (PV.sl none a0))] = f19_value_TakeKey rec n a0 := by kernel_rfl

noncomputable def f20_vestryref07_Key (rec : Rec) (n : Nat) (a0 : Int) (a1 : Int) (a2 : List UInt8) : Option (List OV × List OV) :=
  callB (rec 12 [OV.flat (FV.val (PV.agg [PV.int .i64 a0, PV.int .i64 a1, PV.str a2]))]) fun r1 => needB (okOs Go.Proofs.Tryd.prog [25] [] (Prod.fst r1)) <|
  ifB (PV.toI (FV.pv (OV.fv (List.headD (Prod.fst r1) (OV.flat FV.gone)))) != (0 : Int))
  (some ([OV.flat (FV.own none [] []), OV.flat (FV.val (PV.int .i64 (PV.toI (FV.pv (OV.fv (List.headD (Prod.fst r1) (OV.flat FV.gone)))))))], []))
  (ifB (a0 == (1 : Int))
  (callB (rec 42 [OV.flat (FV.val (PV.int .i64 a1))]) fun r2 => needB (okOs Go.Proofs.Tryd.prog [30] [.o] (Prod.fst r2)) <|
  needB (Nat.ble ((List.length [PV.int .u8 (IntKind.wrap .u8 a0)] + List.length (FV.xs (OV.fv (List.headD (Prod.fst r2) (OV.flat FV.gone))))) * 1) 140737488355328) <|
  needB (Nat.ble (List.length [PV.int .u8 (IntKind.wrap .u8 a0)] + List.length (FV.xs (OV.fv (List.headD (Prod.fst r2) (OV.flat FV.gone))))) 9223372036854775807) <|
  ifB (a0 == (2 : Int))
  (callB (rec 43 [OV.flat (FV.val (PV.str a2))]) fun r3 => needB (okOs Go.Proofs.Tryd.prog [30] [.o] (Prod.fst r3)) <|
  needB (Nat.ble ((List.length ([PV.int .u8 (IntKind.wrap .u8 a0)] ++ (FV.xs (OV.fv (List.headD (Prod.fst r2) (OV.flat FV.gone))))) + List.length (FV.xs (OV.fv (List.headD (Prod.fst r3) (OV.flat FV.gone))))) * 1) 140737488355328) <|
  needB (Nat.ble (List.length ([PV.int .u8 (IntKind.wrap .u8 a0)] ++ (FV.xs (OV.fv (List.headD (Prod.fst r2) (OV.flat FV.gone))))) + List.length (FV.xs (OV.fv (List.headD (Prod.fst r3) (OV.flat FV.gone))))) 9223372036854775807) <|
  some ([OV.flat (FV.own none (([PV.int .u8 (IntKind.wrap .u8 a0)] ++ (FV.xs (OV.fv (List.headD (Prod.fst r2) (OV.flat FV.gone))))) ++ (FV.xs (OV.fv (List.headD (Prod.fst r3) (OV.flat FV.gone))))) []), OV.flat (FV.val (PV.int .i64 (0 : Int)))], []))
  (some ([OV.flat (FV.own none ([PV.int .u8 (IntKind.wrap .u8 a0)] ++ (FV.xs (OV.fv (List.headD (Prod.fst r2) (OV.flat FV.gone))))) []), OV.flat (FV.val (PV.int .i64 (0 : Int)))], [])))
  (ifB (a0 == (2 : Int))
  (callB (rec 43 [OV.flat (FV.val (PV.str a2))]) fun r4 => needB (okOs Go.Proofs.Tryd.prog [30] [.o] (Prod.fst r4)) <|
  needB (Nat.ble ((List.length [PV.int .u8 (IntKind.wrap .u8 a0)] + List.length (FV.xs (OV.fv (List.headD (Prod.fst r4) (OV.flat FV.gone))))) * 1) 140737488355328) <|
  needB (Nat.ble (List.length [PV.int .u8 (IntKind.wrap .u8 a0)] + List.length (FV.xs (OV.fv (List.headD (Prod.fst r4) (OV.flat FV.gone))))) 9223372036854775807) <|
  some ([OV.flat (FV.own none ([PV.int .u8 (IntKind.wrap .u8 a0)] ++ (FV.xs (OV.fv (List.headD (Prod.fst r4) (OV.flat FV.gone))))) []), OV.flat (FV.val (PV.int .i64 (0 : Int)))], []))
  (some ([OV.flat (FV.own none [PV.int .u8 (IntKind.wrap .u8 a0)] []), OV.flat (FV.val (PV.int .i64 (0 : Int)))], []))))

theorem f20_vestryref07_Key_eq (rec : Rec) (n : Nat) (a0 : Int) (a1 : Int) (a2 : List UInt8) : callBody C rec n 20 [OV.flat (FV.val (PV.agg [PV.int .i64 a0, PV.int .i64 a1, PV.str a2]))] = f20_vestryref07_Key rec n a0 a1 a2 := by kernel_rfl

noncomputable def f21_vestryref07_TakeKey (rec : Rec) (n : Nat) (a0 : List PV) : Option (List OV × List OV) :=
  ifB (((List.length a0 : Nat) : Int) == (0 : Int))
  (some ([OV.flat (FV.val (PV.agg [PV.int .i64 (0 : Int), PV.int .i64 (0 : Int), PV.str ([] : List UInt8)])), OV.flat (FV.val (PV.int .i64 (0 : Int))), OV.flat (FV.val (PV.int .i64 (3 : Int)))], []))
  (needB (decide ((0 : Int) < ((List.length a0 : Nat) : Int))) <|
  needB (hasT Go.Proofs.Tryd.prog 5 (nthP a0 0)) <|
  ifB (PV.toI (nthP a0 0) == (0 : Int))
  (some ([OV.flat (FV.val (PV.agg [PV.int .i64 (0 : Int), PV.int .i64 (0 : Int), PV.str ([] : List UInt8)])), OV.flat (FV.val (PV.int .i64 (1 : Int))), OV.flat (FV.val (PV.int .i64 (0 : Int)))], []))
  (needB (decide ((0 : Int) < ((List.length a0 : Nat) : Int))) <|
  needB (hasT Go.Proofs.Tryd.prog 5 (nthP a0 0)) <|
  ifB (PV.toI (nthP a0 0) == (1 : Int))
  (needB (decide ((1 : Int) ≤ ((List.length a0 : Nat) : Int))) <|
  callB (rec 44 [OV.flat (FV.val (PV.sl none (List.drop 1 a0)))]) fun r1 => needB (okOs Go.Proofs.Tryd.prog [3, 3, 25] [] (Prod.fst r1)) <|
  ifB (PV.toI (FV.pv (OV.fv (List.headD (List.tail (List.tail (Prod.fst r1))) (OV.flat FV.gone)))) != (0 : Int))
  (some ([OV.flat (FV.val (PV.agg [PV.int .i64 (0 : Int), PV.int .i64 (0 : Int), PV.str ([] : List UInt8)])), OV.flat (FV.val (PV.int .i64 (0 : Int))), OV.flat (FV.val (PV.int .i64 (PV.toI (FV.pv (OV.fv (List.headD (List.tail (List.tail (Prod.fst r1))) (OV.flat FV.gone)))))))], []))
  (some ([OV.flat (FV.val (PV.agg [PV.int .i64 (1 : Int), PV.int .i64 (PV.toI (FV.pv (OV.fv (List.headD (Prod.fst r1) (OV.flat FV.gone))))), PV.str ([] : List UInt8)])), OV.flat (FV.val (PV.int .i64 (IntKind.wrap .i64 ((1 : Int) + PV.toI (FV.pv (OV.fv (List.headD (List.tail (Prod.fst r1)) (OV.flat FV.gone)))))))), OV.flat (FV.val (PV.int .i64 (0 : Int)))], [])))
  (needB (decide ((0 : Int) < ((List.length a0 : Nat) : Int))) <|
  needB (hasT Go.Proofs.Tryd.prog 5 (nthP a0 0)) <|
  ifB (PV.toI (nthP a0 0) != (2 : Int))
  (some ([OV.flat (FV.val (PV.agg [PV.int .i64 (0 : Int), PV.int .i64 (0 : Int), PV.str ([] : List UInt8)])), OV.flat (FV.val (PV.int .i64 (0 : Int))), OV.flat (FV.val (PV.int .i64 (4 : Int)))], []))
  (needB (decide ((1 : Int) ≤ ((List.length a0 : Nat) : Int))) <|
  callB (rec 45 [OV.flat (FV.val (PV.sl none (List.drop 1 a0)))]) fun r2 => needB (okOs Go.Proofs.Tryd.prog [9, 3, 25] [] (Prod.fst r2)) <|
  ifB (PV.toI (FV.pv (OV.fv (List.headD (List.tail (List.tail (Prod.fst r2))) (OV.flat FV.gone)))) != (0 : Int))
  (some ([OV.flat (FV.val (PV.agg [PV.int .i64 (0 : Int), PV.int .i64 (0 : Int), PV.str ([] : List UInt8)])), OV.flat (FV.val (PV.int .i64 (0 : Int))), OV.flat (FV.val (PV.int .i64 (PV.toI (FV.pv (OV.fv (List.headD (List.tail (List.tail (Prod.fst r2))) (OV.flat FV.gone)))))))], []))
  (ifB (decide (((List.length (PV.toS (FV.pv (OV.fv (List.headD (Prod.fst r2) (OV.flat FV.gone))))) : Nat) : Int) > (40 : Int)))
  (some ([OV.flat (FV.val (PV.agg [PV.int .i64 (0 : Int), PV.int .i64 (0 : Int), PV.str ([] : List UInt8)])), OV.flat (FV.val (PV.int .i64 (0 : Int))), OV.flat (FV.val (PV.int .i64 (2 : Int)))], []))
  (some ([OV.flat (FV.val (PV.agg [PV.int .i64 (2 : Int), PV.int .i64 (0 : Int), PV.str (PV.toS (FV.pv (OV.fv (List.headD (Prod.fst r2) (OV.flat FV.gone)))))])), OV.flat (FV.val (PV.int .i64 (IntKind.wrap .i64 ((1 : Int) + PV.toI (FV.pv (OV.fv (List.headD (List.tail (Prod.fst r2)) (OV.flat FV.gone)))))))), OV.flat (FV.val (PV.int .i64 (0 : Int)))], [])))))))

theorem f21_vestryref07_TakeKey_eq (rec : Rec) (n : Nat) (a0 : List PV) : callBody C rec n 21 [OV.flat (FV.val (PV.sl none a0))] = f21_vestryref07_TakeKey rec n a0 := by kernel_rfl

noncomputable def f24_value_Row.l0.step (rec : Rec) (n : Nat) (self_l0 : List PV → List PV → Int → Int → Option (List OV × List OV)) (x0 : List PV) (x1 : List PV) (x2 : Int) (x3 : Int) : Option (List OV × List OV) :=
  ifB (decide (x3 < x2))
  (needB (decide ((0 : Int) ≤ x3)) <|
  needB (decide (x3 < ((List.length x1 : Nat) : Int))) <|
  needB (hasT Go.Proofs.Tryd.prog 23 (nthP x1 (Int.toNat x3))) <|
  callB (rec 18 [OV.flat (FV.val (PV.agg [PV.int .i64 (PV.toI (List.headD (PV.cells (nthP x1 (Int.toNat x3))) PV.undef)), PV.int .i64 (PV.toI (List.headD (List.tail (PV.cells (nthP x1 (Int.toNat x3)))) PV.undef)), PV.str (PV.toS (List.headD (List.tail (List.tail (PV.cells (nthP x1 (Int.toNat x3))))) PV.undef))]))]) fun r1 => needB (okOs Go.Proofs.Tryd.prog [30, 25] [.o, .v] (Prod.fst r1)) <|
  ifB (PV.toI (FV.pv (OV.fv (List.headD (List.tail (Prod.fst r1)) (OV.flat FV.gone)))) != (0 : Int))
  (some ([OV.flat (FV.own none [] []), OV.flat (FV.val (PV.int .i64 (PV.toI (FV.pv (OV.fv (List.headD (List.tail (Prod.fst r1)) (OV.flat FV.gone)))))))], []))
  (needB (Nat.ble ((List.length x0 + List.length (FV.xs (OV.fv (List.headD (Prod.fst r1) (OV.flat FV.gone))))) * 1) 140737488355328) <|
  needB (Nat.ble (List.length x0 + List.length (FV.xs (OV.fv (List.headD (Prod.fst r1) (OV.flat FV.gone))))) 9223372036854775807) <|
  self_l0 (x0 ++ (FV.xs (OV.fv (List.headD (Prod.fst r1) (OV.flat FV.gone))))) x1 x2 (IntKind.wrap .i64 (x3 + (1 : Int)))))
  (some ([OV.flat (FV.own none x0 []), OV.flat (FV.val (PV.int .i64 (0 : Int)))], []))

noncomputable def f24_value_Row.l0 (rec : Rec) (n : Nat) : Nat → List PV → List PV → Int → Int → Option (List OV × List OV)
  | 0, _, _, _, _ => none
  | m + 1, x0, x1, x2, x3 => f24_value_Row.l0.step rec n (f24_value_Row.l0 rec n m) x0 x1 x2 x3

theorem f24_value_Row.l0_eq (rec : Rec) (n : Nat) : ∀ (m : Nat) (x0 : List PV) (x1 : List PV) (x2 : Int) (x3 : Int), loopAt C rec n 24 [1, 1, 1, 0, 1, 0] [] m [(4, SV.home (OV.flat (FV.own none x0 []))), (12, SV.home (OV.flat (FV.val (PV.sl (some 3) x1)))), (13, SV.home (OV.flat (FV.val (PV.int .i64 x2)))), (14, SV.home (OV.flat (FV.val (PV.int .i64 x3))))] = f24_value_Row.l0 rec n m x0 x1 x2 x3
  | 0, x0, x1, x2, x3 => by kernel_rfl
  | m + 1, x0, x1, x2, x3 => by
    have ih : (fun x0 x1 x2 x3 => loopAt C rec n 24 [1, 1, 1, 0, 1, 0] [] m [(4, SV.home (OV.flat (FV.own none x0 []))), (12, SV.home (OV.flat (FV.val (PV.sl (some 3) x1)))), (13, SV.home (OV.flat (FV.val (PV.int .i64 x2)))), (14, SV.home (OV.flat (FV.val (PV.int .i64 x3))))]) = f24_value_Row.l0 rec n m := funext fun x0 => funext fun x1 => funext fun x2 => funext fun x3 => f24_value_Row.l0_eq rec n m x0 x1 x2 x3
    exact (show loopAt C rec n 24 [1, 1, 1, 0, 1, 0] [] (m + 1) [(4, SV.home (OV.flat (FV.own none x0 []))), (12, SV.home (OV.flat (FV.val (PV.sl (some 3) x1)))), (13, SV.home (OV.flat (FV.val (PV.int .i64 x2)))), (14, SV.home (OV.flat (FV.val (PV.int .i64 x3))))] = f24_value_Row.l0.step rec n (fun x0 x1 x2 x3 => loopAt C rec n 24 [1, 1, 1, 0, 1, 0] [] m [(4, SV.home (OV.flat (FV.own none x0 []))), (12, SV.home (OV.flat (FV.val (PV.sl (some 3) x1)))), (13, SV.home (OV.flat (FV.val (PV.int .i64 x2)))), (14, SV.home (OV.flat (FV.val (PV.int .i64 x3))))]) x0 x1 x2 x3 from by kernel_rfl).trans (by rw [ih]; rfl)

noncomputable def f24_value_Row.pre (rec : Rec) (n : Nat) (l0 : List PV → List PV → Int → Int → Option (List OV × List OV)) (a0 : List PV) : Option (List OV × List OV) :=
  ifB (decide (((List.length a0 : Nat) : Int) > (8 : Int)))
  (some ([OV.flat (FV.own none [] []), OV.flat (FV.val (PV.int .i64 (2 : Int)))], []))
  (l0 [] a0 ((List.length a0 : Nat) : Int) (0 : Int))

noncomputable def f24_value_Row (rec : Rec) (n : Nat) (a0 : List PV) : Option (List OV × List OV) := f24_value_Row.pre rec n (f24_value_Row.l0 rec n n) a0

theorem f24_value_Row_eq (rec : Rec) (n : Nat) (a0 : List PV) : callBody C rec n 24 [OV.flat (FV.val (PV.sl (some 3) a0))] = f24_value_Row rec n a0 := by
  have i0 : (fun x0 x1 x2 x3 => loopAt C rec n 24 [1, 1, 1, 0, 1, 0] [] n [(4, SV.home (OV.flat (FV.own none x0 []))), (12, SV.home (OV.flat (FV.val (PV.sl (some 3) x1)))), (13, SV.home (OV.flat (FV.val (PV.int .i64 x2)))), (14, SV.home (OV.flat (FV.val (PV.int .i64 x3))))]) = f24_value_Row.l0 rec n n := funext fun x0 => funext fun x1 => funext fun x2 => funext fun x3 => f24_value_Row.l0_eq rec n n x0 x1 x2 x3
  exact (show callBody C rec n 24 [OV.flat (FV.val (PV.sl (some 3) a0))] = f24_value_Row.pre rec n (fun x0 x1 x2 x3 => loopAt C rec n 24 [1, 1, 1, 0, 1, 0] [] n [(4, SV.home (OV.flat (FV.own none x0 []))), (12, SV.home (OV.flat (FV.val (PV.sl (some 3) x1)))), (13, SV.home (OV.flat (FV.val (PV.int .i64 x2)))), (14, SV.home (OV.flat (FV.val (PV.int .i64 x3))))]) a0 from by kernel_rfl).trans (by rw [i0]; rfl)

noncomputable def f25_value_TakeRow.l0.step (rec : Rec) (n : Nat) (self_l0 : List PV → List PV → Option (List OV × List OV)) (x0 : List PV) (x1 : List PV) : Option (List OV × List OV) :=
  ifB (decide (((List.length x0 : Nat) : Int) > (0 : Int)))
  (ifB (((List.length x1 : Nat) : Int) == (8 : Int))
  (some ([OV.flat (FV.own (some 3) [] []), OV.flat (FV.val (PV.int .i64 (2 : Int)))], []))
  (callB (rec 19 [OV.flat (FV.val (PV.sl none x0))]) fun r1 => needB (okOs Go.Proofs.Tryd.prog [23, 3, 25] [] (Prod.fst r1)) <|
  ifB (PV.toI (FV.pv (OV.fv (List.headD (List.tail (List.tail (Prod.fst r1))) (OV.flat FV.gone)))) != (0 : Int))
  (some ([OV.flat (FV.own (some 3) [] []), OV.flat (FV.val (PV.int .i64 (PV.toI (FV.pv (OV.fv (List.headD (List.tail (List.tail (Prod.fst r1))) (OV.flat FV.gone)))))))], []))
  (needB (Nat.ble ((List.length x1 + List.length [PV.agg [PV.int .i64 (PV.toI (List.headD (PV.cells (FV.pv (OV.fv (List.headD (Prod.fst r1) (OV.flat FV.gone))))) PV.undef)), PV.int .i64 (PV.toI (List.headD (List.tail (PV.cells (FV.pv (OV.fv (List.headD (Prod.fst r1) (OV.flat FV.gone)))))) PV.undef)), PV.str (PV.toS (List.headD (List.tail (List.tail (PV.cells (FV.pv (OV.fv (List.headD (Prod.fst r1) (OV.flat FV.gone))))))) PV.undef))]]) * 32) 140737488355328) <|
  needB (Nat.ble (List.length x1 + List.length [PV.agg [PV.int .i64 (PV.toI (List.headD (PV.cells (FV.pv (OV.fv (List.headD (Prod.fst r1) (OV.flat FV.gone))))) PV.undef)), PV.int .i64 (PV.toI (List.headD (List.tail (PV.cells (FV.pv (OV.fv (List.headD (Prod.fst r1) (OV.flat FV.gone)))))) PV.undef)), PV.str (PV.toS (List.headD (List.tail (List.tail (PV.cells (FV.pv (OV.fv (List.headD (Prod.fst r1) (OV.flat FV.gone))))))) PV.undef))]]) 9223372036854775807) <|
  needB (decide ((0 : Int) ≤ PV.toI (FV.pv (OV.fv (List.headD (List.tail (Prod.fst r1)) (OV.flat FV.gone)))))) <|
  needB (decide (PV.toI (FV.pv (OV.fv (List.headD (List.tail (Prod.fst r1)) (OV.flat FV.gone)))) ≤ ((List.length x0 : Nat) : Int))) <|
  self_l0 (List.drop (Int.toNat (PV.toI (FV.pv (OV.fv (List.headD (List.tail (Prod.fst r1)) (OV.flat FV.gone)))))) x0) (x1 ++ [PV.agg [PV.int .i64 (PV.toI (List.headD (PV.cells (FV.pv (OV.fv (List.headD (Prod.fst r1) (OV.flat FV.gone))))) PV.undef)), PV.int .i64 (PV.toI (List.headD (List.tail (PV.cells (FV.pv (OV.fv (List.headD (Prod.fst r1) (OV.flat FV.gone)))))) PV.undef)), PV.str (PV.toS (List.headD (List.tail (List.tail (PV.cells (FV.pv (OV.fv (List.headD (Prod.fst r1) (OV.flat FV.gone))))))) PV.undef))]]))))
  (some ([OV.flat (FV.own (some 3) x1 []), OV.flat (FV.val (PV.int .i64 (0 : Int)))], []))

noncomputable def f25_value_TakeRow.l0 (rec : Rec) (n : Nat) : Nat → List PV → List PV → Option (List OV × List OV)
  | 0, _, _ => none
  | m + 1, x0, x1 => f25_value_TakeRow.l0.step rec n (f25_value_TakeRow.l0 rec n m) x0 x1

theorem f25_value_TakeRow.l0_eq (rec : Rec) (n : Nat) : ∀ (m : Nat) (x0 : List PV) (x1 : List PV), loopAt C rec n 25 [1, 1, 0, 0] [] m [(0, SV.home (OV.flat (FV.val (PV.sl none x0)))), (4, SV.home (OV.flat (FV.own (some 3) x1 [])))] = f25_value_TakeRow.l0 rec n m x0 x1
  | 0, x0, x1 => by kernel_rfl
  | m + 1, x0, x1 => by
    have ih : (fun x0 x1 => loopAt C rec n 25 [1, 1, 0, 0] [] m [(0, SV.home (OV.flat (FV.val (PV.sl none x0)))), (4, SV.home (OV.flat (FV.own (some 3) x1 [])))]) = f25_value_TakeRow.l0 rec n m := funext fun x0 => funext fun x1 => f25_value_TakeRow.l0_eq rec n m x0 x1
    exact (show loopAt C rec n 25 [1, 1, 0, 0] [] (m + 1) [(0, SV.home (OV.flat (FV.val (PV.sl none x0)))), (4, SV.home (OV.flat (FV.own (some 3) x1 [])))] = f25_value_TakeRow.l0.step rec n (fun x0 x1 => loopAt C rec n 25 [1, 1, 0, 0] [] m [(0, SV.home (OV.flat (FV.val (PV.sl none x0)))), (4, SV.home (OV.flat (FV.own (some 3) x1 [])))]) x0 x1 from by kernel_rfl).trans (by rw [ih]; rfl)

noncomputable def f25_value_TakeRow.pre (rec : Rec) (n : Nat) (l0 : List PV → List PV → Option (List OV × List OV)) (a0 : List PV) : Option (List OV × List OV) :=
  l0 a0 []

noncomputable def f25_value_TakeRow (rec : Rec) (n : Nat) (a0 : List PV) : Option (List OV × List OV) := f25_value_TakeRow.pre rec n (f25_value_TakeRow.l0 rec n n) a0

theorem f25_value_TakeRow_eq (rec : Rec) (n : Nat) (a0 : List PV) : callBody C rec n 25 [OV.flat (FV.val (PV.sl none a0))] = f25_value_TakeRow rec n a0 := by
  have i0 : (fun x0 x1 => loopAt C rec n 25 [1, 1, 0, 0] [] n [(0, SV.home (OV.flat (FV.val (PV.sl none x0)))), (4, SV.home (OV.flat (FV.own (some 3) x1 [])))]) = f25_value_TakeRow.l0 rec n n := funext fun x0 => funext fun x1 => f25_value_TakeRow.l0_eq rec n n x0 x1
  exact (show callBody C rec n 25 [OV.flat (FV.val (PV.sl none a0))] = f25_value_TakeRow.pre rec n (fun x0 x1 => loopAt C rec n 25 [1, 1, 0, 0] [] n [(0, SV.home (OV.flat (FV.val (PV.sl none x0)))), (4, SV.home (OV.flat (FV.own (some 3) x1 [])))]) a0 from by kernel_rfl).trans (by rw [i0]; rfl)

noncomputable def f26_vestryref07_Row.l0.step (rec : Rec) (n : Nat) (self_l0 : List PV → List PV → Int → Option (List OV × List OV)) (x0 : List PV) (x1 : List PV) (x2 : Int) : Option (List OV × List OV) :=
  ifB (decide (x2 < ((List.length x0 : Nat) : Int)))
  (needB (decide ((0 : Int) ≤ x2)) <|
  needB (decide (x2 < ((List.length x0 : Nat) : Int))) <|
  needB (hasT Go.Proofs.Tryd.prog 23 (nthP x0 (Int.toNat x2))) <|
  callB (rec 20 [OV.flat (FV.val (PV.agg [PV.int .i64 (PV.toI (List.headD (PV.cells (nthP x0 (Int.toNat x2))) PV.undef)), PV.int .i64 (PV.toI (List.headD (List.tail (PV.cells (nthP x0 (Int.toNat x2)))) PV.undef)), PV.str (PV.toS (List.headD (List.tail (List.tail (PV.cells (nthP x0 (Int.toNat x2))))) PV.undef))]))]) fun r1 => needB (okOs Go.Proofs.Tryd.prog [30, 25] [.o, .v] (Prod.fst r1)) <|
  ifB (PV.toI (FV.pv (OV.fv (List.headD (List.tail (Prod.fst r1)) (OV.flat FV.gone)))) != (0 : Int))
  (some ([OV.flat (FV.own none [] []), OV.flat (FV.val (PV.int .i64 (PV.toI (FV.pv (OV.fv (List.headD (List.tail (Prod.fst r1)) (OV.flat FV.gone)))))))], []))
  (needB (Nat.ble ((List.length x1 + List.length (FV.xs (OV.fv (List.headD (Prod.fst r1) (OV.flat FV.gone))))) * 1) 140737488355328) <|
  needB (Nat.ble (List.length x1 + List.length (FV.xs (OV.fv (List.headD (Prod.fst r1) (OV.flat FV.gone))))) 9223372036854775807) <|
  self_l0 x0 (x1 ++ (FV.xs (OV.fv (List.headD (Prod.fst r1) (OV.flat FV.gone))))) (IntKind.wrap .i64 (x2 + (1 : Int)))))
  (some ([OV.flat (FV.own none x1 []), OV.flat (FV.val (PV.int .i64 (0 : Int)))], []))

noncomputable def f26_vestryref07_Row.l0 (rec : Rec) (n : Nat) : Nat → List PV → List PV → Int → Option (List OV × List OV)
  | 0, _, _, _ => none
  | m + 1, x0, x1, x2 => f26_vestryref07_Row.l0.step rec n (f26_vestryref07_Row.l0 rec n m) x0 x1 x2

theorem f26_vestryref07_Row.l0_eq (rec : Rec) (n : Nat) : ∀ (m : Nat) (x0 : List PV) (x1 : List PV) (x2 : Int), loopAt C rec n 26 [1, 1, 1, 0, 1, 0] [] m [(0, SV.home (OV.flat (FV.val (PV.sl (some 3) x0)))), (4, SV.home (OV.flat (FV.own none x1 []))), (5, SV.home (OV.flat (FV.val (PV.int .i64 x2))))] = f26_vestryref07_Row.l0 rec n m x0 x1 x2
  | 0, x0, x1, x2 => by kernel_rfl
  | m + 1, x0, x1, x2 => by
    have ih : (fun x0 x1 x2 => loopAt C rec n 26 [1, 1, 1, 0, 1, 0] [] m [(0, SV.home (OV.flat (FV.val (PV.sl (some 3) x0)))), (4, SV.home (OV.flat (FV.own none x1 []))), (5, SV.home (OV.flat (FV.val (PV.int .i64 x2))))]) = f26_vestryref07_Row.l0 rec n m := funext fun x0 => funext fun x1 => funext fun x2 => f26_vestryref07_Row.l0_eq rec n m x0 x1 x2
    exact (show loopAt C rec n 26 [1, 1, 1, 0, 1, 0] [] (m + 1) [(0, SV.home (OV.flat (FV.val (PV.sl (some 3) x0)))), (4, SV.home (OV.flat (FV.own none x1 []))), (5, SV.home (OV.flat (FV.val (PV.int .i64 x2))))] = f26_vestryref07_Row.l0.step rec n (fun x0 x1 x2 => loopAt C rec n 26 [1, 1, 1, 0, 1, 0] [] m [(0, SV.home (OV.flat (FV.val (PV.sl (some 3) x0)))), (4, SV.home (OV.flat (FV.own none x1 []))), (5, SV.home (OV.flat (FV.val (PV.int .i64 x2))))]) x0 x1 x2 from by kernel_rfl).trans (by rw [ih]; rfl)

noncomputable def f26_vestryref07_Row.pre (rec : Rec) (n : Nat) (l0 : List PV → List PV → Int → Option (List OV × List OV)) (a0 : List PV) : Option (List OV × List OV) :=
  ifB (decide (((List.length a0 : Nat) : Int) > (8 : Int)))
  (some ([OV.flat (FV.own none [] []), OV.flat (FV.val (PV.int .i64 (2 : Int)))], []))
  (l0 a0 [] (0 : Int))

noncomputable def f26_vestryref07_Row (rec : Rec) (n : Nat) (a0 : List PV) : Option (List OV × List OV) := f26_vestryref07_Row.pre rec n (f26_vestryref07_Row.l0 rec n n) a0

theorem f26_vestryref07_Row_eq (rec : Rec) (n : Nat) (a0 : List PV) : callBody C rec n 26 [OV.flat (FV.val (PV.sl (some 3) a0))] = f26_vestryref07_Row rec n a0 := by
  have i0 : (fun x0 x1 x2 => loopAt C rec n 26 [1, 1, 1, 0, 1, 0] [] n [(0, SV.home (OV.flat (FV.val (PV.sl (some 3) x0)))), (4, SV.home (OV.flat (FV.own none x1 []))), (5, SV.home (OV.flat (FV.val (PV.int .i64 x2))))]) = f26_vestryref07_Row.l0 rec n n := funext fun x0 => funext fun x1 => funext fun x2 => f26_vestryref07_Row.l0_eq rec n n x0 x1 x2
  exact (show callBody C rec n 26 [OV.flat (FV.val (PV.sl (some 3) a0))] = f26_vestryref07_Row.pre rec n (fun x0 x1 x2 => loopAt C rec n 26 [1, 1, 1, 0, 1, 0] [] n [(0, SV.home (OV.flat (FV.val (PV.sl (some 3) x0)))), (4, SV.home (OV.flat (FV.own none x1 []))), (5, SV.home (OV.flat (FV.val (PV.int .i64 x2))))]) a0 from by kernel_rfl).trans (by rw [i0]; rfl)

noncomputable def f27_vestryref07_TakeRow.l0.step (rec : Rec) (n : Nat) (self_l0 : List PV → List PV → Int → Option (List OV × List OV)) (x0 : List PV) (x1 : List PV) (x2 : Int) : Option (List OV × List OV) :=
  ifB (decide (x2 < ((List.length x0 : Nat) : Int)))
  (ifB (((List.length x1 : Nat) : Int) == (8 : Int))
  (some ([OV.flat (FV.own (some 3) [] []), OV.flat (FV.val (PV.int .i64 (2 : Int)))], []))
  (needB (decide ((0 : Int) ≤ x2)) <|
  needB (decide (x2 ≤ ((List.length x0 : Nat) : Int))) <|
  callB (rec 21 [OV.flat (FV.val (PV.sl none (List.drop (Int.toNat x2) x0)))]) fun r1 => needB (okOs Go.Proofs.Tryd.prog [23, 3, 25] [] (Prod.fst r1)) <|
  ifB (PV.toI (FV.pv (OV.fv (List.headD (List.tail (List.tail (Prod.fst r1))) (OV.flat FV.gone)))) != (0 : Int))
  (some ([OV.flat (FV.own (some 3) [] []), OV.flat (FV.val (PV.int .i64 (PV.toI (FV.pv (OV.fv (List.headD (List.tail (List.tail (Prod.fst r1))) (OV.flat FV.gone)))))))], []))
  (needB (Nat.ble ((List.length x1 + List.length [PV.agg [PV.int .i64 (PV.toI (List.headD (PV.cells (FV.pv (OV.fv (List.headD (Prod.fst r1) (OV.flat FV.gone))))) PV.undef)), PV.int .i64 (PV.toI (List.headD (List.tail (PV.cells (FV.pv (OV.fv (List.headD (Prod.fst r1) (OV.flat FV.gone)))))) PV.undef)), PV.str (PV.toS (List.headD (List.tail (List.tail (PV.cells (FV.pv (OV.fv (List.headD (Prod.fst r1) (OV.flat FV.gone))))))) PV.undef))]]) * 32) 140737488355328) <|
  needB (Nat.ble (List.length x1 + List.length [PV.agg [PV.int .i64 (PV.toI (List.headD (PV.cells (FV.pv (OV.fv (List.headD (Prod.fst r1) (OV.flat FV.gone))))) PV.undef)), PV.int .i64 (PV.toI (List.headD (List.tail (PV.cells (FV.pv (OV.fv (List.headD (Prod.fst r1) (OV.flat FV.gone)))))) PV.undef)), PV.str (PV.toS (List.headD (List.tail (List.tail (PV.cells (FV.pv (OV.fv (List.headD (Prod.fst r1) (OV.flat FV.gone))))))) PV.undef))]]) 9223372036854775807) <|
  self_l0 x0 (x1 ++ [PV.agg [PV.int .i64 (PV.toI (List.headD (PV.cells (FV.pv (OV.fv (List.headD (Prod.fst r1) (OV.flat FV.gone))))) PV.undef)), PV.int .i64 (PV.toI (List.headD (List.tail (PV.cells (FV.pv (OV.fv (List.headD (Prod.fst r1) (OV.flat FV.gone)))))) PV.undef)), PV.str (PV.toS (List.headD (List.tail (List.tail (PV.cells (FV.pv (OV.fv (List.headD (Prod.fst r1) (OV.flat FV.gone))))))) PV.undef))]]) (IntKind.wrap .i64 (x2 + PV.toI (FV.pv (OV.fv (List.headD (List.tail (Prod.fst r1)) (OV.flat FV.gone)))))))))
  (some ([OV.flat (FV.own (some 3) x1 []), OV.flat (FV.val (PV.int .i64 (0 : Int)))], []))

noncomputable def f27_vestryref07_TakeRow.l0 (rec : Rec) (n : Nat) : Nat → List PV → List PV → Int → Option (List OV × List OV)
  | 0, _, _, _ => none
  | m + 1, x0, x1, x2 => f27_vestryref07_TakeRow.l0.step rec n (f27_vestryref07_TakeRow.l0 rec n m) x0 x1 x2

theorem f27_vestryref07_TakeRow.l0_eq (rec : Rec) (n : Nat) : ∀ (m : Nat) (x0 : List PV) (x1 : List PV) (x2 : Int), loopAt C rec n 27 [1, 1, 0, 1, 0] [] m [(0, SV.home (OV.flat (FV.val (PV.sl none x0)))), (4, SV.home (OV.flat (FV.own (some 3) x1 []))), (5, SV.home (OV.flat (FV.val (PV.int .i64 x2))))] = f27_vestryref07_TakeRow.l0 rec n m x0 x1 x2
  | 0, x0, x1, x2 => by kernel_rfl
  | m + 1, x0, x1, x2 => by
    have ih : (fun x0 x1 x2 => loopAt C rec n 27 [1, 1, 0, 1, 0] [] m [(0, SV.home (OV.flat (FV.val (PV.sl none x0)))), (4, SV.home (OV.flat (FV.own (some 3) x1 []))), (5, SV.home (OV.flat (FV.val (PV.int .i64 x2))))]) = f27_vestryref07_TakeRow.l0 rec n m := funext fun x0 => funext fun x1 => funext fun x2 => f27_vestryref07_TakeRow.l0_eq rec n m x0 x1 x2
    exact (show loopAt C rec n 27 [1, 1, 0, 1, 0] [] (m + 1) [(0, SV.home (OV.flat (FV.val (PV.sl none x0)))), (4, SV.home (OV.flat (FV.own (some 3) x1 []))), (5, SV.home (OV.flat (FV.val (PV.int .i64 x2))))] = f27_vestryref07_TakeRow.l0.step rec n (fun x0 x1 x2 => loopAt C rec n 27 [1, 1, 0, 1, 0] [] m [(0, SV.home (OV.flat (FV.val (PV.sl none x0)))), (4, SV.home (OV.flat (FV.own (some 3) x1 []))), (5, SV.home (OV.flat (FV.val (PV.int .i64 x2))))]) x0 x1 x2 from by kernel_rfl).trans (by rw [ih]; rfl)

noncomputable def f27_vestryref07_TakeRow.pre (rec : Rec) (n : Nat) (l0 : List PV → List PV → Int → Option (List OV × List OV)) (a0 : List PV) : Option (List OV × List OV) :=
  l0 a0 [] (0 : Int)

noncomputable def f27_vestryref07_TakeRow (rec : Rec) (n : Nat) (a0 : List PV) : Option (List OV × List OV) := f27_vestryref07_TakeRow.pre rec n (f27_vestryref07_TakeRow.l0 rec n n) a0

theorem f27_vestryref07_TakeRow_eq (rec : Rec) (n : Nat) (a0 : List PV) : callBody C rec n 27 [OV.flat (FV.val (PV.sl none a0))] = f27_vestryref07_TakeRow rec n a0 := by
  have i0 : (fun x0 x1 x2 => loopAt C rec n 27 [1, 1, 0, 1, 0] [] n [(0, SV.home (OV.flat (FV.val (PV.sl none x0)))), (4, SV.home (OV.flat (FV.own (some 3) x1 []))), (5, SV.home (OV.flat (FV.val (PV.int .i64 x2))))]) = f27_vestryref07_TakeRow.l0 rec n n := funext fun x0 => funext fun x1 => funext fun x2 => f27_vestryref07_TakeRow.l0_eq rec n n x0 x1 x2
  exact (show callBody C rec n 27 [OV.flat (FV.val (PV.sl none a0))] = f27_vestryref07_TakeRow.pre rec n (fun x0 x1 x2 => loopAt C rec n 27 [1, 1, 0, 1, 0] [] n [(0, SV.home (OV.flat (FV.val (PV.sl none x0)))), (4, SV.home (OV.flat (FV.own (some 3) x1 []))), (5, SV.home (OV.flat (FV.val (PV.int .i64 x2))))]) a0 from by kernel_rfl).trans (by rw [i0]; rfl)

noncomputable def f28_vestryref07_Same.l0.step (rec : Rec) (n : Nat) (self_l0 : List PV → List PV → Int → Option (List OV × List OV)) (x0 : List PV) (x1 : List PV) (x2 : Int) : Option (List OV × List OV) :=
  ifB (decide (x2 < ((List.length x0 : Nat) : Int)))
  (needB (decide ((0 : Int) ≤ x2)) <|
  needB (decide (x2 < ((List.length x0 : Nat) : Int))) <|
  needB (hasT Go.Proofs.Tryd.prog 23 (nthP x0 (Int.toNat x2))) <|
  needB (decide ((0 : Int) ≤ x2)) <|
  needB (decide (x2 < ((List.length x1 : Nat) : Int))) <|
  needB (hasT Go.Proofs.Tryd.prog 23 (nthP x1 (Int.toNat x2))) <|
  ifB (!(((PV.toI (List.headD (PV.cells (nthP x0 (Int.toNat x2))) PV.undef)) == (PV.toI (List.headD (PV.cells (nthP x1 (Int.toNat x2))) PV.undef))) && (((PV.toI (List.headD (List.tail (PV.cells (nthP x0 (Int.toNat x2)))) PV.undef)) == (PV.toI (List.headD (List.tail (PV.cells (nthP x1 (Int.toNat x2)))) PV.undef))) && (((PV.toS (List.headD (List.tail (List.tail (PV.cells (nthP x0 (Int.toNat x2))))) PV.undef)) == (PV.toS (List.headD (List.tail (List.tail (PV.cells (nthP x1 (Int.toNat x2))))) PV.undef))) && (true)))))
  (some ([OV.flat (FV.val (PV.bool false))], []))
  (self_l0 x0 x1 (IntKind.wrap .i64 (x2 + (1 : Int)))))
  (some ([OV.flat (FV.val (PV.bool true))], []))

noncomputable def f28_vestryref07_Same.l0 (rec : Rec) (n : Nat) : Nat → List PV → List PV → Int → Option (List OV × List OV)
  | 0, _, _, _ => none
  | m + 1, x0, x1, x2 => f28_vestryref07_Same.l0.step rec n (f28_vestryref07_Same.l0 rec n m) x0 x1 x2

theorem f28_vestryref07_Same.l0_eq (rec : Rec) (n : Nat) : ∀ (m : Nat) (x0 : List PV) (x1 : List PV) (x2 : Int), loopAt C rec n 28 [1, 1, 0, 1, 0] [] m [(0, SV.home (OV.flat (FV.val (PV.sl (some 3) x0)))), (1, SV.home (OV.flat (FV.val (PV.sl (some 3) x1)))), (5, SV.home (OV.flat (FV.val (PV.int .i64 x2))))] = f28_vestryref07_Same.l0 rec n m x0 x1 x2
  | 0, x0, x1, x2 => by kernel_rfl
  | m + 1, x0, x1, x2 => by
    have ih : (fun x0 x1 x2 => loopAt C rec n 28 [1, 1, 0, 1, 0] [] m [(0, SV.home (OV.flat (FV.val (PV.sl (some 3) x0)))), (1, SV.home (OV.flat (FV.val (PV.sl (some 3) x1)))), (5, SV.home (OV.flat (FV.val (PV.int .i64 x2))))]) = f28_vestryref07_Same.l0 rec n m := funext fun x0 => funext fun x1 => funext fun x2 => f28_vestryref07_Same.l0_eq rec n m x0 x1 x2
    exact (show loopAt C rec n 28 [1, 1, 0, 1, 0] [] (m + 1) [(0, SV.home (OV.flat (FV.val (PV.sl (some 3) x0)))), (1, SV.home (OV.flat (FV.val (PV.sl (some 3) x1)))), (5, SV.home (OV.flat (FV.val (PV.int .i64 x2))))] = f28_vestryref07_Same.l0.step rec n (fun x0 x1 x2 => loopAt C rec n 28 [1, 1, 0, 1, 0] [] m [(0, SV.home (OV.flat (FV.val (PV.sl (some 3) x0)))), (1, SV.home (OV.flat (FV.val (PV.sl (some 3) x1)))), (5, SV.home (OV.flat (FV.val (PV.int .i64 x2))))]) x0 x1 x2 from by kernel_rfl).trans (by rw [ih]; rfl)

noncomputable def f28_vestryref07_Same.pre (rec : Rec) (n : Nat) (l0 : List PV → List PV → Int → Option (List OV × List OV)) (a0 : List PV) (a1 : List PV) : Option (List OV × List OV) :=
  ifB (((List.length a0 : Nat) : Int) != ((List.length a1 : Nat) : Int))
  (some ([OV.flat (FV.val (PV.bool false))], []))
  (l0 a0 a1 (0 : Int))

noncomputable def f28_vestryref07_Same (rec : Rec) (n : Nat) (a0 : List PV) (a1 : List PV) : Option (List OV × List OV) := f28_vestryref07_Same.pre rec n (f28_vestryref07_Same.l0 rec n n) a0 a1

theorem f28_vestryref07_Same_eq (rec : Rec) (n : Nat) (a0 : List PV) (a1 : List PV) : callBody C rec n 28 [OV.flat (FV.val (PV.sl (some 3) a0)), OV.flat (FV.val (PV.sl (some 3) a1))] = f28_vestryref07_Same rec n a0 a1 := by
  have i0 : (fun x0 x1 x2 => loopAt C rec n 28 [1, 1, 0, 1, 0] [] n [(0, SV.home (OV.flat (FV.val (PV.sl (some 3) x0)))), (1, SV.home (OV.flat (FV.val (PV.sl (some 3) x1)))), (5, SV.home (OV.flat (FV.val (PV.int .i64 x2))))]) = f28_vestryref07_Same.l0 rec n n := funext fun x0 => funext fun x1 => funext fun x2 => f28_vestryref07_Same.l0_eq rec n n x0 x1 x2
  exact (show callBody C rec n 28 [OV.flat (FV.val (PV.sl (some 3) a0)), OV.flat (FV.val (PV.sl (some 3) a1))] = f28_vestryref07_Same.pre rec n (fun x0 x1 x2 => loopAt C rec n 28 [1, 1, 0, 1, 0] [] n [(0, SV.home (OV.flat (FV.val (PV.sl (some 3) x0)))), (1, SV.home (OV.flat (FV.val (PV.sl (some 3) x1)))), (5, SV.home (OV.flat (FV.val (PV.int .i64 x2))))]) a0 a1 from by kernel_rfl).trans (by rw [i0]; rfl)

noncomputable def f29_vestrylaw07_Text (rec : Rec) (n : Nat) (a0 : List UInt8) : Option (List OV × List OV) :=
  some ([OV.flat (FV.val (PV.agg [PV.int .i64 (2 : Int), PV.int .i64 (0 : Int), PV.str a0]))], [])

theorem f29_vestrylaw07_Text_eq (rec : Rec) (n : Nat) (a0 : List UInt8) : callBody C rec n 29 [OV.flat (FV.val (PV.str a0))] = f29_vestrylaw07_Text rec n a0 := by kernel_rfl

noncomputable def f30_vestrylaw07_Num (rec : Rec) (n : Nat) (a0 : Int) : Option (List OV × List OV) :=
  some ([OV.flat (FV.val (PV.agg [PV.int .i64 (1 : Int), PV.int .i64 a0, PV.str ([] : List UInt8)]))], [])

theorem f30_vestrylaw07_Num_eq (rec : Rec) (n : Nat) (a0 : Int) : callBody C rec n 30 [OV.flat (FV.val (PV.int .i64 a0))] = f30_vestrylaw07_Num rec n a0 := by kernel_rfl

noncomputable def f31_value_bare (rec : Rec) (n : Nat) (a0 : Int) (a1 : Int) (a2 : List UInt8) : Option (List OV × List OV) :=
  ifB (a0 == (0 : Int))
  (some ([OV.flat (FV.val (PV.agg [PV.int .i64 (0 : Int), PV.int .i64 (0 : Int), PV.str ([] : List UInt8)]))], []))
  (ifB (a0 == (1 : Int))
  (some ([OV.flat (FV.val (PV.agg [PV.int .i64 a0, PV.int .i64 a1, PV.str ([] : List UInt8)]))], []))
  (ifB (a0 == (2 : Int))
  (some ([OV.flat (FV.val (PV.agg [PV.int .i64 a0, PV.int .i64 (0 : Int), PV.str a2]))], []))
  (some ([OV.flat (FV.val (PV.agg [PV.int .i64 a0, PV.int .i64 a1, PV.str a2]))], []))))

theorem f31_value_bare_eq (rec : Rec) (n : Nat) (a0 : Int) (a1 : Int) (a2 : List UInt8) : callBody C rec n 31 [OV.flat (FV.val (PV.agg [PV.int .i64 a0, PV.int .i64 a1, PV.str a2]))] = f31_value_bare rec n a0 a1 a2 := by kernel_rfl

noncomputable def f32_cmp_Or_int.l0.step (rec : Rec) (n : Nat) (self_l0 : Int → List PV → Int → Int → Option (List OV × List OV)) (x0 : Int) (x1 : List PV) (x2 : Int) (x3 : Int) : Option (List OV × List OV) :=
  ifB (decide (x3 < x2))
  (needB (decide ((0 : Int) ≤ x3)) <|
  needB (decide (x3 < ((List.length x1 : Nat) : Int))) <|
  needB (hasT Go.Proofs.Tryd.prog 3 (nthP x1 (Int.toNat x3))) <|
  ifB (PV.toI (nthP x1 (Int.toNat x3)) != x0)
  (some ([OV.flat (FV.val (PV.int .i64 (PV.toI (nthP x1 (Int.toNat x3)))))], []))
  (self_l0 x0 x1 x2 (IntKind.wrap .i64 (x3 + (1 : Int)))))
  (some ([OV.flat (FV.val (PV.int .i64 x0))], []))

noncomputable def f32_cmp_Or_int.l0 (rec : Rec) (n : Nat) : Nat → Int → List PV → Int → Int → Option (List OV × List OV)
  | 0, _, _, _, _ => none
  | m + 1, x0, x1, x2, x3 => f32_cmp_Or_int.l0.step rec n (f32_cmp_Or_int.l0 rec n m) x0 x1 x2 x3

theorem f32_cmp_Or_int.l0_eq (rec : Rec) (n : Nat) : ∀ (m : Nat) (x0 : Int) (x1 : List PV) (x2 : Int) (x3 : Int), loopAt C rec n 32 [1, 1, 0, 1, 0] [] m [(3, SV.home (OV.flat (FV.val (PV.int .i64 x0)))), (6, SV.home (OV.flat (FV.val (PV.sl none x1)))), (7, SV.home (OV.flat (FV.val (PV.int .i64 x2)))), (8, SV.home (OV.flat (FV.val (PV.int .i64 x3))))] = f32_cmp_Or_int.l0 rec n m x0 x1 x2 x3
  | 0, x0, x1, x2, x3 => by kernel_rfl
  | m + 1, x0, x1, x2, x3 => by
    have ih : (fun x0 x1 x2 x3 => loopAt C rec n 32 [1, 1, 0, 1, 0] [] m [(3, SV.home (OV.flat (FV.val (PV.int .i64 x0)))), (6, SV.home (OV.flat (FV.val (PV.sl none x1)))), (7, SV.home (OV.flat (FV.val (PV.int .i64 x2)))), (8, SV.home (OV.flat (FV.val (PV.int .i64 x3))))]) = f32_cmp_Or_int.l0 rec n m := funext fun x0 => funext fun x1 => funext fun x2 => funext fun x3 => f32_cmp_Or_int.l0_eq rec n m x0 x1 x2 x3
    exact (show loopAt C rec n 32 [1, 1, 0, 1, 0] [] (m + 1) [(3, SV.home (OV.flat (FV.val (PV.int .i64 x0)))), (6, SV.home (OV.flat (FV.val (PV.sl none x1)))), (7, SV.home (OV.flat (FV.val (PV.int .i64 x2)))), (8, SV.home (OV.flat (FV.val (PV.int .i64 x3))))] = f32_cmp_Or_int.l0.step rec n (fun x0 x1 x2 x3 => loopAt C rec n 32 [1, 1, 0, 1, 0] [] m [(3, SV.home (OV.flat (FV.val (PV.int .i64 x0)))), (6, SV.home (OV.flat (FV.val (PV.sl none x1)))), (7, SV.home (OV.flat (FV.val (PV.int .i64 x2)))), (8, SV.home (OV.flat (FV.val (PV.int .i64 x3))))]) x0 x1 x2 x3 from by kernel_rfl).trans (by rw [ih]; rfl)

noncomputable def f32_cmp_Or_int.pre (rec : Rec) (n : Nat) (l0 : Int → List PV → Int → Int → Option (List OV × List OV)) (a0 : List PV) : Option (List OV × List OV) :=
  l0 (0 : Int) a0 ((List.length a0 : Nat) : Int) (0 : Int)

noncomputable def f32_cmp_Or_int (rec : Rec) (n : Nat) (a0 : List PV) : Option (List OV × List OV) := f32_cmp_Or_int.pre rec n (f32_cmp_Or_int.l0 rec n n) a0

theorem f32_cmp_Or_int_eq (rec : Rec) (n : Nat) (a0 : List PV) : callBody C rec n 32 [OV.flat (FV.val (PV.sl none a0))] = f32_cmp_Or_int rec n a0 := by
  have i0 : (fun x0 x1 x2 x3 => loopAt C rec n 32 [1, 1, 0, 1, 0] [] n [(3, SV.home (OV.flat (FV.val (PV.int .i64 x0)))), (6, SV.home (OV.flat (FV.val (PV.sl none x1)))), (7, SV.home (OV.flat (FV.val (PV.int .i64 x2)))), (8, SV.home (OV.flat (FV.val (PV.int .i64 x3))))]) = f32_cmp_Or_int.l0 rec n n := funext fun x0 => funext fun x1 => funext fun x2 => funext fun x3 => f32_cmp_Or_int.l0_eq rec n n x0 x1 x2 x3
  exact (show callBody C rec n 32 [OV.flat (FV.val (PV.sl none a0))] = f32_cmp_Or_int.pre rec n (fun x0 x1 x2 x3 => loopAt C rec n 32 [1, 1, 0, 1, 0] [] n [(3, SV.home (OV.flat (FV.val (PV.int .i64 x0)))), (6, SV.home (OV.flat (FV.val (PV.sl none x1)))), (7, SV.home (OV.flat (FV.val (PV.int .i64 x2)))), (8, SV.home (OV.flat (FV.val (PV.int .i64 x3))))]) a0 from by kernel_rfl).trans (by rw [i0]; rfl)

noncomputable def f33_cmp_Compare_int (rec : Rec) (n : Nat) (a0 : Int) (a1 : Int) : Option (List OV × List OV) :=
  callB (rec 46 [OV.flat (FV.val (PV.int .i64 a0))]) fun r1 => needB (okOs Go.Proofs.Tryd.prog [4] [] (Prod.fst r1)) <|
  callB (rec 46 [OV.flat (FV.val (PV.int .i64 a1))]) fun r2 => needB (okOs Go.Proofs.Tryd.prog [4] [] (Prod.fst r2)) <|
  ifB (PV.toB (FV.pv (OV.fv (List.headD (Prod.fst r1) (OV.flat FV.gone)))))
  (ifB (PV.toB (FV.pv (OV.fv (List.headD (Prod.fst r2) (OV.flat FV.gone)))))
  (some ([OV.flat (FV.val (PV.int .i64 (0 : Int)))], []))
  (some ([OV.flat (FV.val (PV.int .i64 (-1 : Int)))], [])))
  (ifB (PV.toB (FV.pv (OV.fv (List.headD (Prod.fst r2) (OV.flat FV.gone)))))
  (some ([OV.flat (FV.val (PV.int .i64 (1 : Int)))], []))
  (ifB (decide (a0 < a1))
  (some ([OV.flat (FV.val (PV.int .i64 (-1 : Int)))], []))
  (ifB (decide (a0 > a1))
  (some ([OV.flat (FV.val (PV.int .i64 (1 : Int)))], []))
  (some ([OV.flat (FV.val (PV.int .i64 (0 : Int)))], [])))))

theorem f33_cmp_Compare_int_eq (rec : Rec) (n : Nat) (a0 : Int) (a1 : Int) : callBody C rec n 33 [OV.flat (FV.val (PV.int .i64 a0)), OV.flat (FV.val (PV.int .i64 a1))] = f33_cmp_Compare_int rec n a0 a1 := by kernel_rfl

noncomputable def f38_plain_NumKey (rec : Rec) (n : Nat) (a0 : Int) : Option (List OV × List OV) :=
  callB (rec 51 [OV.flat (FV.val (PV.int .i64 a0))]) fun r1 => needB (okOs Go.Proofs.Tryd.prog [30] [.o] (Prod.fst r1)) <|
  needB (decide ((0 : Int) < ((List.length (FV.xs (OV.fv (List.headD (Prod.fst r1) (OV.flat FV.gone)))) : Nat) : Int))) <|
  needB (Nat.blt 0 (List.length (FV.xs (OV.fv (List.headD (Prod.fst r1) (OV.flat FV.gone)))))) <|
  needB (hasT Go.Proofs.Tryd.prog 5 (nthP (FV.xs (OV.fv (List.headD (Prod.fst r1) (OV.flat FV.gone)))) 0)) <|
  needB (decide ((0 : Int) < ((List.length (FV.xs (OV.fv (List.headD (Prod.fst r1) (OV.flat FV.gone)))) : Nat) : Int))) <|
  needB (Nat.blt 0 (List.length (FV.xs (OV.fv (List.headD (Prod.fst r1) (OV.flat FV.gone)))))) <|
  some ([OV.flat (FV.own none (List.set (FV.xs (OV.fv (List.headD (Prod.fst r1) (OV.flat FV.gone)))) 0 (PV.int .u8 (IntKind.wrap .u8 (((BitVec.toNat ((BitVec.ofInt (IntKind.bits .u8) (PV.toI (nthP (FV.xs (OV.fv (List.headD (Prod.fst r1) (OV.flat FV.gone)))) 0))) ^^^ (BitVec.ofInt (IntKind.bits .u8) (128 : Int))) : Nat) : Int))))) [])], [])

theorem f38_plain_NumKey_eq (rec : Rec) (n : Nat) (a0 : Int) : callBody C rec n 38 [OV.flat (FV.val (PV.int .i64 a0))] = f38_plain_NumKey rec n a0 := by kernel_rfl

noncomputable def f39_plain_TextKey (rec : Rec) (n : Nat) (a0 : List UInt8) : Option (List OV × List OV) :=
  needB (Nat.ble (List.length a0) 9223372036854775807) <|
  callB (rec 52 [OV.flat (FV.val (PV.sl none (List.map pvByte a0))), OV.flat (FV.val (PV.sl none [PV.int .u8 (0 : Int)])), OV.flat (FV.val (PV.sl none [PV.int .u8 (0 : Int), PV.int .u8 (255 : Int)]))]) fun r1 => needB (okOs Go.Proofs.Tryd.prog [30] [.o] (Prod.fst r1)) <|
  needB (Nat.ble ((List.length (FV.xs (OV.fv (List.headD (Prod.fst r1) (OV.flat FV.gone)))) + List.length [PV.int .u8 (0 : Int), PV.int .u8 (0 : Int)]) * 1) 140737488355328) <|
  needB (Nat.ble (List.length (FV.xs (OV.fv (List.headD (Prod.fst r1) (OV.flat FV.gone)))) + List.length [PV.int .u8 (0 : Int), PV.int .u8 (0 : Int)]) 9223372036854775807) <|
  some ([OV.flat (FV.own none ((FV.xs (OV.fv (List.headD (Prod.fst r1) (OV.flat FV.gone)))) ++ [PV.int .u8 (0 : Int), PV.int .u8 (0 : Int)]) [])], [])

theorem f39_plain_TextKey_eq (rec : Rec) (n : Nat) (a0 : List UInt8) : callBody C rec n 39 [OV.flat (FV.val (PV.str a0))] = f39_plain_TextKey rec n a0 := by kernel_rfl

noncomputable def f40_plain_TakeNumKey (rec : Rec) (n : Nat) (a0 : List PV) : Option (List OV × List OV) :=
  callB (rec 53 [OV.flat (FV.val (PV.sl none a0))]) fun r1 => needB (okOs Go.Proofs.Tryd.prog [3, 3, 25] [] (Prod.fst r1)) <|
  ifB (PV.toI (FV.pv (OV.fv (List.headD (List.tail (List.tail (Prod.fst r1))) (OV.flat FV.gone)))) != (0 : Int))
  (some ([OV.flat (FV.val (PV.int .i64 (0 : Int))), OV.flat (FV.val (PV.int .i64 (0 : Int))), OV.flat (FV.val (PV.int .i64 (PV.toI (FV.pv (OV.fv (List.headD (List.tail (List.tail (Prod.fst r1))) (OV.flat FV.gone)))))))], []))
  (some ([OV.flat (FV.val (PV.int .i64 (IntKind.wrap .i64 (((BitVec.toNat ((BitVec.ofInt (IntKind.bits .i64) (PV.toI (FV.pv (OV.fv (List.headD (Prod.fst r1) (OV.flat FV.gone)))))) ^^^ (BitVec.ofInt (IntKind.bits .i64) (-9223372036854775808 : Int))) : Nat) : Int))))), OV.flat (FV.val (PV.int .i64 (PV.toI (FV.pv (OV.fv (List.headD (List.tail (Prod.fst r1)) (OV.flat FV.gone))))))), OV.flat (FV.val (PV.int .i64 (0 : Int)))], []))

theorem f40_plain_TakeNumKey_eq (rec : Rec) (n : Nat) (a0 : List PV) : callBody C rec n 40 [OV.flat (FV.val (PV.sl none a0))] = f40_plain_TakeNumKey rec n a0 := by kernel_rfl

noncomputable def f41_plain_TakeTextKey.l0.step (rec : Rec) (n : Nat) (self_l0 : List PV → List PV → Int → Option (List OV × List OV)) (x0 : List PV) (x1 : List PV) (x2 : Int) : Option (List OV × List OV) :=
  ifB (decide (x2 < ((List.length x0 : Nat) : Int)))
  (needB (decide ((0 : Int) ≤ x2)) <|
  needB (decide (x2 ≤ ((List.length x0 : Nat) : Int))) <|
  callB (rec 54 [OV.flat (FV.val (PV.sl none (List.drop (Int.toNat x2) x0))), OV.flat (FV.val (PV.int .u8 (0 : Int)))]) fun r1 => needB (okOs Go.Proofs.Tryd.prog [3] [] (Prod.fst r1)) <|
  ifB (decide (PV.toI (FV.pv (OV.fv (List.headD (Prod.fst r1) (OV.flat FV.gone)))) < (0 : Int)))
  (some ([OV.flat (FV.val (PV.str ([] : List UInt8))), OV.flat (FV.val (PV.int .i64 (0 : Int))), OV.flat (FV.val (PV.int .i64 (3 : Int)))], []))
  (ifB (IntKind.wrap .i64 (IntKind.wrap .i64 (x2 + PV.toI (FV.pv (OV.fv (List.headD (Prod.fst r1) (OV.flat FV.gone))))) + (1 : Int)) == ((List.length x0 : Nat) : Int))
  (some ([OV.flat (FV.val (PV.str ([] : List UInt8))), OV.flat (FV.val (PV.int .i64 (0 : Int))), OV.flat (FV.val (PV.int .i64 (3 : Int)))], []))
  (needB (decide ((0 : Int) ≤ x2)) <|
  needB (decide (x2 ≤ IntKind.wrap .i64 (x2 + PV.toI (FV.pv (OV.fv (List.headD (Prod.fst r1) (OV.flat FV.gone))))))) <|
  needB (decide (IntKind.wrap .i64 (x2 + PV.toI (FV.pv (OV.fv (List.headD (Prod.fst r1) (OV.flat FV.gone))))) ≤ ((List.length x0 : Nat) : Int))) <|
  needB (Nat.ble ((List.length x1 + List.length (List.drop (Int.toNat x2) (List.take (Int.toNat (IntKind.wrap .i64 (x2 + PV.toI (FV.pv (OV.fv (List.headD (Prod.fst r1) (OV.flat FV.gone))))))) x0))) * 1) 140737488355328) <|
  needB (Nat.ble (List.length x1 + List.length (List.drop (Int.toNat x2) (List.take (Int.toNat (IntKind.wrap .i64 (x2 + PV.toI (FV.pv (OV.fv (List.headD (Prod.fst r1) (OV.flat FV.gone))))))) x0))) 9223372036854775807) <|
  needB (decide ((0 : Int) ≤ IntKind.wrap .i64 (IntKind.wrap .i64 (x2 + IntKind.wrap .i64 (PV.toI (FV.pv (OV.fv (List.headD (Prod.fst r1) (OV.flat FV.gone)))) + (2 : Int))) - (1 : Int)))) <|
  needB (decide (IntKind.wrap .i64 (IntKind.wrap .i64 (x2 + IntKind.wrap .i64 (PV.toI (FV.pv (OV.fv (List.headD (Prod.fst r1) (OV.flat FV.gone)))) + (2 : Int))) - (1 : Int)) < ((List.length x0 : Nat) : Int))) <|
  needB (hasT Go.Proofs.Tryd.prog 5 (nthP x0 (Int.toNat (IntKind.wrap .i64 (IntKind.wrap .i64 (x2 + IntKind.wrap .i64 (PV.toI (FV.pv (OV.fv (List.headD (Prod.fst r1) (OV.flat FV.gone)))) + (2 : Int))) - (1 : Int)))))) <|
  ifB (PV.toI (nthP x0 (Int.toNat (IntKind.wrap .i64 (IntKind.wrap .i64 (x2 + IntKind.wrap .i64 (PV.toI (FV.pv (OV.fv (List.headD (Prod.fst r1) (OV.flat FV.gone)))) + (2 : Int))) - (1 : Int))))) == (0 : Int))
  (needB (List.all (x1 ++ (List.drop (Int.toNat x2) (List.take (Int.toNat (IntKind.wrap .i64 (x2 + PV.toI (FV.pv (OV.fv (List.headD (Prod.fst r1) (OV.flat FV.gone))))))) x0))) isByte) <|
  some ([OV.flat (FV.val (PV.str (List.map u8Of (x1 ++ (List.drop (Int.toNat x2) (List.take (Int.toNat (IntKind.wrap .i64 (x2 + PV.toI (FV.pv (OV.fv (List.headD (Prod.fst r1) (OV.flat FV.gone))))))) x0)))))), OV.flat (FV.val (PV.int .i64 (IntKind.wrap .i64 (x2 + IntKind.wrap .i64 (PV.toI (FV.pv (OV.fv (List.headD (Prod.fst r1) (OV.flat FV.gone)))) + (2 : Int)))))), OV.flat (FV.val (PV.int .i64 (0 : Int)))], []))
  (ifB (PV.toI (nthP x0 (Int.toNat (IntKind.wrap .i64 (IntKind.wrap .i64 (x2 + IntKind.wrap .i64 (PV.toI (FV.pv (OV.fv (List.headD (Prod.fst r1) (OV.flat FV.gone)))) + (2 : Int))) - (1 : Int))))) == (255 : Int))
  (needB (Nat.ble ((List.length (x1 ++ (List.drop (Int.toNat x2) (List.take (Int.toNat (IntKind.wrap .i64 (x2 + PV.toI (FV.pv (OV.fv (List.headD (Prod.fst r1) (OV.flat FV.gone))))))) x0))) + List.length [PV.int .u8 (0 : Int)]) * 1) 140737488355328) <|
  needB (Nat.ble (List.length (x1 ++ (List.drop (Int.toNat x2) (List.take (Int.toNat (IntKind.wrap .i64 (x2 + PV.toI (FV.pv (OV.fv (List.headD (Prod.fst r1) (OV.flat FV.gone))))))) x0))) + List.length [PV.int .u8 (0 : Int)]) 9223372036854775807) <|
  self_l0 x0 ((x1 ++ (List.drop (Int.toNat x2) (List.take (Int.toNat (IntKind.wrap .i64 (x2 + PV.toI (FV.pv (OV.fv (List.headD (Prod.fst r1) (OV.flat FV.gone))))))) x0))) ++ [PV.int .u8 (0 : Int)]) (IntKind.wrap .i64 (x2 + IntKind.wrap .i64 (PV.toI (FV.pv (OV.fv (List.headD (Prod.fst r1) (OV.flat FV.gone)))) + (2 : Int)))))
  (some ([OV.flat (FV.val (PV.str ([] : List UInt8))), OV.flat (FV.val (PV.int .i64 (0 : Int))), OV.flat (FV.val (PV.int .i64 (4 : Int)))], []))))))
  (some ([OV.flat (FV.val (PV.str ([] : List UInt8))), OV.flat (FV.val (PV.int .i64 (0 : Int))), OV.flat (FV.val (PV.int .i64 (3 : Int)))], []))

noncomputable def f41_plain_TakeTextKey.l0 (rec : Rec) (n : Nat) : Nat → List PV → List PV → Int → Option (List OV × List OV)
  | 0, _, _, _ => none
  | m + 1, x0, x1, x2 => f41_plain_TakeTextKey.l0.step rec n (f41_plain_TakeTextKey.l0 rec n m) x0 x1 x2

theorem f41_plain_TakeTextKey.l0_eq (rec : Rec) (n : Nat) : ∀ (m : Nat) (x0 : List PV) (x1 : List PV) (x2 : Int), loopAt C rec n 41 [1, 0, 1, 1, 1, 0, 0] [] m [(0, SV.home (OV.flat (FV.val (PV.sl none x0)))), (5, SV.home (OV.flat (FV.own none x1 []))), (6, SV.home (OV.flat (FV.val (PV.int .i64 x2))))] = f41_plain_TakeTextKey.l0 rec n m x0 x1 x2
  | 0, x0, x1, x2 => by kernel_rfl
  | m + 1, x0, x1, x2 => by
    have ih : (fun x0 x1 x2 => loopAt C rec n 41 [1, 0, 1, 1, 1, 0, 0] [] m [(0, SV.home (OV.flat (FV.val (PV.sl none x0)))), (5, SV.home (OV.flat (FV.own none x1 []))), (6, SV.home (OV.flat (FV.val (PV.int .i64 x2))))]) = f41_plain_TakeTextKey.l0 rec n m := funext fun x0 => funext fun x1 => funext fun x2 => f41_plain_TakeTextKey.l0_eq rec n m x0 x1 x2
    exact (show loopAt C rec n 41 [1, 0, 1, 1, 1, 0, 0] [] (m + 1) [(0, SV.home (OV.flat (FV.val (PV.sl none x0)))), (5, SV.home (OV.flat (FV.own none x1 []))), (6, SV.home (OV.flat (FV.val (PV.int .i64 x2))))] = f41_plain_TakeTextKey.l0.step rec n (fun x0 x1 x2 => loopAt C rec n 41 [1, 0, 1, 1, 1, 0, 0] [] m [(0, SV.home (OV.flat (FV.val (PV.sl none x0)))), (5, SV.home (OV.flat (FV.own none x1 []))), (6, SV.home (OV.flat (FV.val (PV.int .i64 x2))))]) x0 x1 x2 from by kernel_rfl).trans (by rw [ih]; rfl)

noncomputable def f41_plain_TakeTextKey.pre (rec : Rec) (n : Nat) (l0 : List PV → List PV → Int → Option (List OV × List OV)) (a0 : List PV) : Option (List OV × List OV) :=
  l0 a0 [] (0 : Int)

noncomputable def f41_plain_TakeTextKey (rec : Rec) (n : Nat) (a0 : List PV) : Option (List OV × List OV) := f41_plain_TakeTextKey.pre rec n (f41_plain_TakeTextKey.l0 rec n n) a0

theorem f41_plain_TakeTextKey_eq (rec : Rec) (n : Nat) (a0 : List PV) : callBody C rec n 41 [OV.flat (FV.val (PV.sl none a0))] = f41_plain_TakeTextKey rec n a0 := by
  have i0 : (fun x0 x1 x2 => loopAt C rec n 41 [1, 0, 1, 1, 1, 0, 0] [] n [(0, SV.home (OV.flat (FV.val (PV.sl none x0)))), (5, SV.home (OV.flat (FV.own none x1 []))), (6, SV.home (OV.flat (FV.val (PV.int .i64 x2))))]) = f41_plain_TakeTextKey.l0 rec n n := funext fun x0 => funext fun x1 => funext fun x2 => f41_plain_TakeTextKey.l0_eq rec n n x0 x1 x2
  exact (show callBody C rec n 41 [OV.flat (FV.val (PV.sl none a0))] = f41_plain_TakeTextKey.pre rec n (fun x0 x1 x2 => loopAt C rec n 41 [1, 0, 1, 1, 1, 0, 0] [] n [(0, SV.home (OV.flat (FV.val (PV.sl none x0)))), (5, SV.home (OV.flat (FV.own none x1 []))), (6, SV.home (OV.flat (FV.val (PV.int .i64 x2))))]) a0 from by kernel_rfl).trans (by rw [i0]; rfl)

noncomputable def f42_vestryref01_NumKey (rec : Rec) (n : Nat) (a0 : Int) : Option (List OV × List OV) :=
  callB (rec 55 [OV.flat (FV.val (PV.int .i64 a0))]) fun r1 => needB (okOs Go.Proofs.Tryd.prog [30] [.o] (Prod.fst r1)) <|
  needB (decide ((0 : Int) < ((List.length (FV.xs (OV.fv (List.headD (Prod.fst r1) (OV.flat FV.gone)))) : Nat) : Int))) <|
  needB (Nat.blt 0 (List.length (FV.xs (OV.fv (List.headD (Prod.fst r1) (OV.flat FV.gone)))))) <|
  needB (hasT Go.Proofs.Tryd.prog 5 (nthP (FV.xs (OV.fv (List.headD (Prod.fst r1) (OV.flat FV.gone)))) 0)) <|
  needB (decide ((0 : Int) < ((List.length (FV.xs (OV.fv (List.headD (Prod.fst r1) (OV.flat FV.gone)))) : Nat) : Int))) <|
  needB (Nat.blt 0 (List.length (FV.xs (OV.fv (List.headD (Prod.fst r1) (OV.flat FV.gone)))))) <|
  some ([OV.flat (FV.own none (List.set (FV.xs (OV.fv (List.headD (Prod.fst r1) (OV.flat FV.gone)))) 0 (PV.int .u8 (IntKind.wrap .u8 (((BitVec.toNat ((BitVec.ofInt (IntKind.bits .u8) (PV.toI (nthP (FV.xs (OV.fv (List.headD (Prod.fst r1) (OV.flat FV.gone)))) 0))) ^^^ (BitVec.ofInt (IntKind.bits .u8) (128 : Int))) : Nat) : Int))))) [])], [])

theorem f42_vestryref01_NumKey_eq (rec : Rec) (n : Nat) (a0 : Int) : callBody C rec n 42 [OV.flat (FV.val (PV.int .i64 a0))] = f42_vestryref01_NumKey rec n a0 := by kernel_rfl

noncomputable def f43_vestryref01_TextKey.l0.step (rec : Rec) (n : Nat) (self_l0 : List UInt8 → List PV → Int → Option (List OV × List OV)) (x0 : List UInt8) (x1 : List PV) (x2 : Int) : Option (List OV × List OV) :=
  ifB (decide (x2 < ((List.length x0 : Nat) : Int)))
  (needB (decide ((0 : Int) ≤ x2)) <|
  needB (decide (x2 < ((List.length x0 : Nat) : Int))) <|
  needB (Nat.ble ((List.length x1 + List.length [PV.int .u8 ((UInt8.toNat (List.getD x0 (Int.toNat x2) 0) : Nat) : Int)]) * 1) 140737488355328) <|
  needB (Nat.ble (List.length x1 + List.length [PV.int .u8 ((UInt8.toNat (List.getD x0 (Int.toNat x2) 0) : Nat) : Int)]) 9223372036854775807) <|
  needB (decide ((0 : Int) ≤ x2)) <|
  needB (decide (x2 < ((List.length x0 : Nat) : Int))) <|
  ifB (((UInt8.toNat (List.getD x0 (Int.toNat x2) 0) : Nat) : Int) == (0 : Int))
  (needB (Nat.ble ((List.length (x1 ++ [PV.int .u8 ((UInt8.toNat (List.getD x0 (Int.toNat x2) 0) : Nat) : Int)]) + List.length [PV.int .u8 (255 : Int)]) * 1) 140737488355328) <|
  needB (Nat.ble (List.length (x1 ++ [PV.int .u8 ((UInt8.toNat (List.getD x0 (Int.toNat x2) 0) : Nat) : Int)]) + List.length [PV.int .u8 (255 : Int)]) 9223372036854775807) <|
  self_l0 x0 ((x1 ++ [PV.int .u8 ((UInt8.toNat (List.getD x0 (Int.toNat x2) 0) : Nat) : Int)]) ++ [PV.int .u8 (255 : Int)]) (IntKind.wrap .i64 (x2 + (1 : Int))))
  (self_l0 x0 (x1 ++ [PV.int .u8 ((UInt8.toNat (List.getD x0 (Int.toNat x2) 0) : Nat) : Int)]) (IntKind.wrap .i64 (x2 + (1 : Int)))))
  (needB (Nat.ble ((List.length x1 + List.length [PV.int .u8 (0 : Int), PV.int .u8 (0 : Int)]) * 1) 140737488355328) <|
  needB (Nat.ble (List.length x1 + List.length [PV.int .u8 (0 : Int), PV.int .u8 (0 : Int)]) 9223372036854775807) <|
  some ([OV.flat (FV.own none (x1 ++ [PV.int .u8 (0 : Int), PV.int .u8 (0 : Int)]) [])], []))

noncomputable def f43_vestryref01_TextKey.l0 (rec : Rec) (n : Nat) : Nat → List UInt8 → List PV → Int → Option (List OV × List OV)
  | 0, _, _, _ => none
  | m + 1, x0, x1, x2 => f43_vestryref01_TextKey.l0.step rec n (f43_vestryref01_TextKey.l0 rec n m) x0 x1 x2

theorem f43_vestryref01_TextKey.l0_eq (rec : Rec) (n : Nat) : ∀ (m : Nat) (x0 : List UInt8) (x1 : List PV) (x2 : Int), loopAt C rec n 43 [1, 1, 0, 1, 0] [] m [(0, SV.home (OV.flat (FV.val (PV.str x0)))), (3, SV.home (OV.flat (FV.own none x1 []))), (4, SV.home (OV.flat (FV.val (PV.int .i64 x2))))] = f43_vestryref01_TextKey.l0 rec n m x0 x1 x2
  | 0, x0, x1, x2 => by kernel_rfl
  | m + 1, x0, x1, x2 => by
    have ih : (fun x0 x1 x2 => loopAt C rec n 43 [1, 1, 0, 1, 0] [] m [(0, SV.home (OV.flat (FV.val (PV.str x0)))), (3, SV.home (OV.flat (FV.own none x1 []))), (4, SV.home (OV.flat (FV.val (PV.int .i64 x2))))]) = f43_vestryref01_TextKey.l0 rec n m := funext fun x0 => funext fun x1 => funext fun x2 => f43_vestryref01_TextKey.l0_eq rec n m x0 x1 x2
    exact (show loopAt C rec n 43 [1, 1, 0, 1, 0] [] (m + 1) [(0, SV.home (OV.flat (FV.val (PV.str x0)))), (3, SV.home (OV.flat (FV.own none x1 []))), (4, SV.home (OV.flat (FV.val (PV.int .i64 x2))))] = f43_vestryref01_TextKey.l0.step rec n (fun x0 x1 x2 => loopAt C rec n 43 [1, 1, 0, 1, 0] [] m [(0, SV.home (OV.flat (FV.val (PV.str x0)))), (3, SV.home (OV.flat (FV.own none x1 []))), (4, SV.home (OV.flat (FV.val (PV.int .i64 x2))))]) x0 x1 x2 from by kernel_rfl).trans (by rw [ih]; rfl)

noncomputable def f43_vestryref01_TextKey.pre (rec : Rec) (n : Nat) (l0 : List UInt8 → List PV → Int → Option (List OV × List OV)) (a0 : List UInt8) : Option (List OV × List OV) :=
  l0 a0 [] (0 : Int)

noncomputable def f43_vestryref01_TextKey (rec : Rec) (n : Nat) (a0 : List UInt8) : Option (List OV × List OV) := f43_vestryref01_TextKey.pre rec n (f43_vestryref01_TextKey.l0 rec n n) a0

theorem f43_vestryref01_TextKey_eq (rec : Rec) (n : Nat) (a0 : List UInt8) : callBody C rec n 43 [OV.flat (FV.val (PV.str a0))] = f43_vestryref01_TextKey rec n a0 := by
  have i0 : (fun x0 x1 x2 => loopAt C rec n 43 [1, 1, 0, 1, 0] [] n [(0, SV.home (OV.flat (FV.val (PV.str x0)))), (3, SV.home (OV.flat (FV.own none x1 []))), (4, SV.home (OV.flat (FV.val (PV.int .i64 x2))))]) = f43_vestryref01_TextKey.l0 rec n n := funext fun x0 => funext fun x1 => funext fun x2 => f43_vestryref01_TextKey.l0_eq rec n n x0 x1 x2
  exact (show callBody C rec n 43 [OV.flat (FV.val (PV.str a0))] = f43_vestryref01_TextKey.pre rec n (fun x0 x1 x2 => loopAt C rec n 43 [1, 1, 0, 1, 0] [] n [(0, SV.home (OV.flat (FV.val (PV.str x0)))), (3, SV.home (OV.flat (FV.own none x1 []))), (4, SV.home (OV.flat (FV.val (PV.int .i64 x2))))]) a0 from by kernel_rfl).trans (by rw [i0]; rfl)

noncomputable def f44_vestryref01_TakeNumKey (rec : Rec) (n : Nat) (a0 : List PV) : Option (List OV × List OV) :=
  ifB (decide (((List.length a0 : Nat) : Int) < (8 : Int)))
  (some ([OV.flat (FV.val (PV.int .i64 (0 : Int))), OV.flat (FV.val (PV.int .i64 (0 : Int))), OV.flat (FV.val (PV.int .i64 (3 : Int)))], []))
  (needB (decide ((8 : Int) ≤ ((List.length a0 : Nat) : Int))) <|
  needB (Nat.ble ((List.length ([] : List PV) + List.length (List.take 8 a0)) * 1) 140737488355328) <|
  needB (Nat.ble (List.length ([] : List PV) + List.length (List.take 8 a0)) 9223372036854775807) <|
  needB (decide ((0 : Int) < ((List.length ([] ++ (List.take 8 a0)) : Nat) : Int))) <|
  needB (Nat.blt 0 (List.length ([] ++ (List.take 8 a0)))) <|
  needB (hasT Go.Proofs.Tryd.prog 5 (nthP ([] ++ (List.take 8 a0)) 0)) <|
  needB (decide ((0 : Int) < ((List.length ([] ++ (List.take 8 a0)) : Nat) : Int))) <|
  needB (Nat.blt 0 (List.length ([] ++ (List.take 8 a0)))) <|
  callB (rec 56 [OV.flat (FV.val (PV.sl none (List.set ([] ++ (List.take 8 a0)) 0 (PV.int .u8 (IntKind.wrap .u8 (((BitVec.toNat ((BitVec.ofInt (IntKind.bits .u8) (PV.toI (nthP ([] ++ (List.take 8 a0)) 0))) ^^^ (BitVec.ofInt (IntKind.bits .u8) (128 : Int))) : Nat) : Int)))))))]) fun r1 => needB (okOs Go.Proofs.Tryd.prog [3, 3, 25] [] (Prod.fst r1)) <|
  some ([OV.flat (FV.val (PV.int .i64 (PV.toI (FV.pv (OV.fv (List.headD (Prod.fst r1) (OV.flat FV.gone))))))), OV.flat (FV.val (PV.int .i64 (PV.toI (FV.pv (OV.fv (List.headD (List.tail (Prod.fst r1)) (OV.flat FV.gone))))))), OV.flat (FV.val (PV.int .i64 (PV.toI (FV.pv (OV.fv (List.headD (List.tail (List.tail (Prod.fst r1))) (OV.flat FV.gone)))))))], []))

theorem f44_vestryref01_TakeNumKey_eq (rec : Rec) (n : Nat) (a0 : List PV) : callBody C rec n 44 [OV.flat (FV.val (PV.sl none a0))] = f44_vestryref01_TakeNumKey rec n a0 := by kernel_rfl

noncomputable def f45_vestryref01_TakeTextKey.l0.step (rec : Rec) (n : Nat) (self_l0 : List PV → List PV → Int → Option (List OV × List OV)) (x0 : List PV) (x1 : List PV) (x2 : Int) : Option (List OV × List OV) :=
  ifB (decide (x2 < ((List.length x0 : Nat) : Int)))
  (needB (decide ((0 : Int) ≤ x2)) <|
  needB (decide (x2 < ((List.length x0 : Nat) : Int))) <|
  needB (hasT Go.Proofs.Tryd.prog 5 (nthP x0 (Int.toNat x2))) <|
  ifB (PV.toI (nthP x0 (Int.toNat x2)) != (0 : Int))
  (needB (decide ((0 : Int) ≤ x2)) <|
  needB (decide (x2 < ((List.length x0 : Nat) : Int))) <|
  needB (hasT Go.Proofs.Tryd.prog 5 (nthP x0 (Int.toNat x2))) <|
  needB (Nat.ble ((List.length x1 + List.length [PV.int .u8 (PV.toI (nthP x0 (Int.toNat x2)))]) * 1) 140737488355328) <|
  needB (Nat.ble (List.length x1 + List.length [PV.int .u8 (PV.toI (nthP x0 (Int.toNat x2)))]) 9223372036854775807) <|
  self_l0 x0 (x1 ++ [PV.int .u8 (PV.toI (nthP x0 (Int.toNat x2)))]) (IntKind.wrap .i64 (x2 + (1 : Int))))
  (ifB (IntKind.wrap .i64 (x2 + (1 : Int)) == ((List.length x0 : Nat) : Int))
  (some ([OV.flat (FV.val (PV.str ([] : List UInt8))), OV.flat (FV.val (PV.int .i64 (0 : Int))), OV.flat (FV.val (PV.int .i64 (3 : Int)))], []))
  (needB (decide ((0 : Int) ≤ IntKind.wrap .i64 (x2 + (1 : Int)))) <|
  needB (decide (IntKind.wrap .i64 (x2 + (1 : Int)) < ((List.length x0 : Nat) : Int))) <|
  needB (hasT Go.Proofs.Tryd.prog 5 (nthP x0 (Int.toNat (IntKind.wrap .i64 (x2 + (1 : Int)))))) <|
  ifB (PV.toI (nthP x0 (Int.toNat (IntKind.wrap .i64 (x2 + (1 : Int))))) == (0 : Int))
  (needB (List.all x1 isByte) <|
  some ([OV.flat (FV.val (PV.str (List.map u8Of x1))), OV.flat (FV.val (PV.int .i64 (IntKind.wrap .i64 (x2 + (2 : Int))))), OV.flat (FV.val (PV.int .i64 (0 : Int)))], []))
  (needB (decide ((0 : Int) ≤ IntKind.wrap .i64 (x2 + (1 : Int)))) <|
  needB (decide (IntKind.wrap .i64 (x2 + (1 : Int)) < ((List.length x0 : Nat) : Int))) <|
  needB (hasT Go.Proofs.Tryd.prog 5 (nthP x0 (Int.toNat (IntKind.wrap .i64 (x2 + (1 : Int)))))) <|
  ifB (PV.toI (nthP x0 (Int.toNat (IntKind.wrap .i64 (x2 + (1 : Int))))) != (255 : Int))
  (some ([OV.flat (FV.val (PV.str ([] : List UInt8))), OV.flat (FV.val (PV.int .i64 (0 : Int))), OV.flat (FV.val (PV.int .i64 (4 : Int)))], []))
  (needB (Nat.ble ((List.length x1 + List.length [PV.int .u8 (0 : Int)]) * 1) 140737488355328) <|
  needB (Nat.ble (List.length x1 + List.length [PV.int .u8 (0 : Int)]) 9223372036854775807) <|
  self_l0 x0 (x1 ++ [PV.int .u8 (0 : Int)]) (IntKind.wrap .i64 (IntKind.wrap .i64 (x2 + (1 : Int)) + (1 : Int))))))))
  (some ([OV.flat (FV.val (PV.str ([] : List UInt8))), OV.flat (FV.val (PV.int .i64 (0 : Int))), OV.flat (FV.val (PV.int .i64 (3 : Int)))], []))

noncomputable def f45_vestryref01_TakeTextKey.l0 (rec : Rec) (n : Nat) : Nat → List PV → List PV → Int → Option (List OV × List OV)
  | 0, _, _, _ => none
  | m + 1, x0, x1, x2 => f45_vestryref01_TakeTextKey.l0.step rec n (f45_vestryref01_TakeTextKey.l0 rec n m) x0 x1 x2

theorem f45_vestryref01_TakeTextKey.l0_eq (rec : Rec) (n : Nat) : ∀ (m : Nat) (x0 : List PV) (x1 : List PV) (x2 : Int), loopAt C rec n 45 [1, 1, 0, 1, 0] [] m [(0, SV.home (OV.flat (FV.val (PV.sl none x0)))), (5, SV.home (OV.flat (FV.own none x1 []))), (6, SV.home (OV.flat (FV.val (PV.int .i64 x2))))] = f45_vestryref01_TakeTextKey.l0 rec n m x0 x1 x2
  | 0, x0, x1, x2 => by kernel_rfl
  | m + 1, x0, x1, x2 => by
    have ih : (fun x0 x1 x2 => loopAt C rec n 45 [1, 1, 0, 1, 0] [] m [(0, SV.home (OV.flat (FV.val (PV.sl none x0)))), (5, SV.home (OV.flat (FV.own none x1 []))), (6, SV.home (OV.flat (FV.val (PV.int .i64 x2))))]) = f45_vestryref01_TakeTextKey.l0 rec n m := funext fun x0 => funext fun x1 => funext fun x2 => f45_vestryref01_TakeTextKey.l0_eq rec n m x0 x1 x2
    exact (show loopAt C rec n 45 [1, 1, 0, 1, 0] [] (m + 1) [(0, SV.home (OV.flat (FV.val (PV.sl none x0)))), (5, SV.home (OV.flat (FV.own none x1 []))), (6, SV.home (OV.flat (FV.val (PV.int .i64 x2))))] = f45_vestryref01_TakeTextKey.l0.step rec n (fun x0 x1 x2 => loopAt C rec n 45 [1, 1, 0, 1, 0] [] m [(0, SV.home (OV.flat (FV.val (PV.sl none x0)))), (5, SV.home (OV.flat (FV.own none x1 []))), (6, SV.home (OV.flat (FV.val (PV.int .i64 x2))))]) x0 x1 x2 from by kernel_rfl).trans (by rw [ih]; rfl)

noncomputable def f45_vestryref01_TakeTextKey.pre (rec : Rec) (n : Nat) (l0 : List PV → List PV → Int → Option (List OV × List OV)) (a0 : List PV) : Option (List OV × List OV) :=
  l0 a0 [] (0 : Int)

noncomputable def f45_vestryref01_TakeTextKey (rec : Rec) (n : Nat) (a0 : List PV) : Option (List OV × List OV) := f45_vestryref01_TakeTextKey.pre rec n (f45_vestryref01_TakeTextKey.l0 rec n n) a0

theorem f45_vestryref01_TakeTextKey_eq (rec : Rec) (n : Nat) (a0 : List PV) : callBody C rec n 45 [OV.flat (FV.val (PV.sl none a0))] = f45_vestryref01_TakeTextKey rec n a0 := by
  have i0 : (fun x0 x1 x2 => loopAt C rec n 45 [1, 1, 0, 1, 0] [] n [(0, SV.home (OV.flat (FV.val (PV.sl none x0)))), (5, SV.home (OV.flat (FV.own none x1 []))), (6, SV.home (OV.flat (FV.val (PV.int .i64 x2))))]) = f45_vestryref01_TakeTextKey.l0 rec n n := funext fun x0 => funext fun x1 => funext fun x2 => f45_vestryref01_TakeTextKey.l0_eq rec n n x0 x1 x2
  exact (show callBody C rec n 45 [OV.flat (FV.val (PV.sl none a0))] = f45_vestryref01_TakeTextKey.pre rec n (fun x0 x1 x2 => loopAt C rec n 45 [1, 1, 0, 1, 0] [] n [(0, SV.home (OV.flat (FV.val (PV.sl none x0)))), (5, SV.home (OV.flat (FV.own none x1 []))), (6, SV.home (OV.flat (FV.val (PV.int .i64 x2))))]) a0 from by kernel_rfl).trans (by rw [i0]; rfl)

noncomputable def f46_cmp_isNaN_int (rec : Rec) (n : Nat) (a0 : Int) : Option (List OV × List OV) :=
  some ([OV.flat (FV.val (PV.bool (a0 != a0)))], [])

theorem f46_cmp_isNaN_int_eq (rec : Rec) (n : Nat) (a0 : Int) : callBody C rec n 46 [OV.flat (FV.val (PV.int .i64 a0))] = f46_cmp_isNaN_int rec n a0 := by kernel_rfl

noncomputable def f51_plain_Num (rec : Rec) (n : Nat) (a0 : Int) : Option (List OV × List OV) :=
  callB (rec 65 [OV.flat (FV.own none [] []), OV.flat (FV.val (PV.int .i64 a0)), OV.flat (FV.val (PV.int .i64 (8 : Int)))]) fun r1 => needB (okOs Go.Proofs.Tryd.prog [30] [.o] (Prod.fst r1)) <|
  some ([OV.flat (FV.own none (FV.xs (OV.fv (List.headD (Prod.fst r1) (OV.flat FV.gone)))) [])], [])

theorem f51_plain_Num_eq (rec : Rec) (n : Nat) (a0 : Int) : callBody C rec n 51 [OV.flat (FV.val (PV.int .i64 a0))] = f51_plain_Num rec n a0 := by kernel_rfl

noncomputable def f52_bytes_ReplaceAll (rec : Rec) (n : Nat) (a0 : List PV) (a1 : Int) (a2 : Int) (a3 : Int) : Option (List OV × List OV) :=
  callB (rec 66 [OV.flat (FV.val (PV.sl none a0)), OV.flat (FV.val (PV.sl none [PV.int .u8 a1])), OV.flat (FV.val (PV.sl none [PV.int .u8 a2, PV.int .u8 a3])), OV.flat (FV.val (PV.int .i64 (-1 : Int)))]) fun r1 => needB (okOs Go.Proofs.Tryd.prog [30] [.o] (Prod.fst r1)) <|
  some ([OV.flat (FV.own none (FV.xs (OV.fv (List.headD (Prod.fst r1) (OV.flat FV.gone)))) [])], [])

theorem f52_bytes_ReplaceAll_eq (rec : Rec) (n : Nat) (a0 : List PV) (a1 : Int) (a2 : Int) (a3 : Int) : callBody C rec n 52 [OV.flat (FV.val (PV.sl none a0)), OV.flat (FV.val (PV.sl none [PV.int .u8 a1])), OV.flat (FV.val (PV.sl none [PV.int .u8 a2, PV.int .u8 a3]))] = f52_bytes_ReplaceAll rec n a0 a1 a2 a3 := by kernel_rfl

noncomputable def f53_plain_TakeNum (rec : Rec) (n : Nat) (a0 : List PV) : Option (List OV × List OV) :=
  callB (rec 67 [OV.flat (FV.val (PV.sl none a0)), OV.flat (FV.val (PV.int .i64 (8 : Int)))]) fun r1 => needB (okOs Go.Proofs.Tryd.prog [3, 4] [] (Prod.fst r1)) <|
  ifB (!(PV.toB (FV.pv (OV.fv (List.headD (List.tail (Prod.fst r1)) (OV.flat FV.gone))))))
  (some ([OV.flat (FV.val (PV.int .i64 (0 : Int))), OV.flat (FV.val (PV.int .i64 (0 : Int))), OV.flat (FV.val (PV.int .i64 (3 : Int)))], []))
  (some ([OV.flat (FV.val (PV.int .i64 (PV.toI (FV.pv (OV.fv (List.headD (Prod.fst r1) (OV.flat FV.gone))))))), OV.flat (FV.val (PV.int .i64 (8 : Int))), OV.flat (FV.val (PV.int .i64 (0 : Int)))], []))

theorem f53_plain_TakeNum_eq (rec : Rec) (n : Nat) (a0 : List PV) : callBody C rec n 53 [OV.flat (FV.val (PV.sl none a0))] = f53_plain_TakeNum rec n a0 := by kernel_rfl

noncomputable def f55_vestryref01_Num.l0.step (rec : Rec) (n : Nat) (self_l0 : Int → List PV → Int → Option (List OV × List OV)) (x0 : Int) (x1 : List PV) (x2 : Int) : Option (List OV × List OV) :=
  ifB (decide (x2 ≥ (0 : Int)))
  (needB (decide ((0 : Int) ≤ x2)) <|
  needB (decide (x2 < ((List.length x1 : Nat) : Int))) <|
  needB (Nat.blt (Int.toNat x2) (List.length x1)) <|
  self_l0 (Int.fdiv x0 ((2 : Int) ^ (min 8 (IntKind.bits .i64)))) (List.set x1 (Int.toNat x2) (PV.int .u8 (IntKind.wrap .u8 x0))) (IntKind.wrap .i64 (x2 - (1 : Int))))
  (some ([OV.flat (FV.own none x1 [])], []))

noncomputable def f55_vestryref01_Num.l0 (rec : Rec) (n : Nat) : Nat → Int → List PV → Int → Option (List OV × List OV)
  | 0, _, _, _ => none
  | m + 1, x0, x1, x2 => f55_vestryref01_Num.l0.step rec n (f55_vestryref01_Num.l0 rec n m) x0 x1 x2

theorem f55_vestryref01_Num.l0_eq (rec : Rec) (n : Nat) : ∀ (m : Nat) (x0 : Int) (x1 : List PV) (x2 : Int), loopAt C rec n 55 [1, 1, 0, 1, 0] [] m [(0, SV.home (OV.flat (FV.val (PV.int .i64 x0)))), (3, SV.home (OV.flat (FV.own none x1 []))), (4, SV.home (OV.flat (FV.val (PV.int .i64 x2))))] = f55_vestryref01_Num.l0 rec n m x0 x1 x2
  | 0, x0, x1, x2 => by kernel_rfl
  | m + 1, x0, x1, x2 => by
    have ih : (fun x0 x1 x2 => loopAt C rec n 55 [1, 1, 0, 1, 0] [] m [(0, SV.home (OV.flat (FV.val (PV.int .i64 x0)))), (3, SV.home (OV.flat (FV.own none x1 []))), (4, SV.home (OV.flat (FV.val (PV.int .i64 x2))))]) = f55_vestryref01_Num.l0 rec n m := funext fun x0 => funext fun x1 => funext fun x2 => f55_vestryref01_Num.l0_eq rec n m x0 x1 x2
    exact (show loopAt C rec n 55 [1, 1, 0, 1, 0] [] (m + 1) [(0, SV.home (OV.flat (FV.val (PV.int .i64 x0)))), (3, SV.home (OV.flat (FV.own none x1 []))), (4, SV.home (OV.flat (FV.val (PV.int .i64 x2))))] = f55_vestryref01_Num.l0.step rec n (fun x0 x1 x2 => loopAt C rec n 55 [1, 1, 0, 1, 0] [] m [(0, SV.home (OV.flat (FV.val (PV.int .i64 x0)))), (3, SV.home (OV.flat (FV.own none x1 []))), (4, SV.home (OV.flat (FV.val (PV.int .i64 x2))))]) x0 x1 x2 from by kernel_rfl).trans (by rw [ih]; rfl)

noncomputable def f55_vestryref01_Num.pre (rec : Rec) (n : Nat) (l0 : Int → List PV → Int → Option (List OV × List OV)) (a0 : Int) : Option (List OV × List OV) :=
  needB (Nat.ble (1 * 8) 140737488355328) <|
  l0 a0 (List.replicate 8 (PV.int .u8 (0 : Int))) (7 : Int)

noncomputable def f55_vestryref01_Num (rec : Rec) (n : Nat) (a0 : Int) : Option (List OV × List OV) := f55_vestryref01_Num.pre rec n (f55_vestryref01_Num.l0 rec n n) a0

theorem f55_vestryref01_Num_eq (rec : Rec) (n : Nat) (a0 : Int) : callBody C rec n 55 [OV.flat (FV.val (PV.int .i64 a0))] = f55_vestryref01_Num rec n a0 := by
  have i0 : (fun x0 x1 x2 => loopAt C rec n 55 [1, 1, 0, 1, 0] [] n [(0, SV.home (OV.flat (FV.val (PV.int .i64 x0)))), (3, SV.home (OV.flat (FV.own none x1 []))), (4, SV.home (OV.flat (FV.val (PV.int .i64 x2))))]) = f55_vestryref01_Num.l0 rec n n := funext fun x0 => funext fun x1 => funext fun x2 => f55_vestryref01_Num.l0_eq rec n n x0 x1 x2
  exact (show callBody C rec n 55 [OV.flat (FV.val (PV.int .i64 a0))] = f55_vestryref01_Num.pre rec n (fun x0 x1 x2 => loopAt C rec n 55 [1, 1, 0, 1, 0] [] n [(0, SV.home (OV.flat (FV.val (PV.int .i64 x0)))), (3, SV.home (OV.flat (FV.own none x1 []))), (4, SV.home (OV.flat (FV.val (PV.int .i64 x2))))]) a0 from by kernel_rfl).trans (by rw [i0]; rfl)

noncomputable def f56_vestryref01_TakeNum.l0.step (rec : Rec) (n : Nat) (self_l0 : List PV → Int → Int → Option (List OV × List OV)) (x0 : List PV) (x1 : Int) (x2 : Int) : Option (List OV × List OV) :=
  ifB (decide (x2 < (8 : Int)))
  (needB (decide ((0 : Int) ≤ x2)) <|
  needB (decide (x2 < ((List.length x0 : Nat) : Int))) <|
  needB (hasT Go.Proofs.Tryd.prog 5 (nthP x0 (Int.toNat x2))) <|
  self_l0 x0 (IntKind.wrap .i64 (((BitVec.toNat ((BitVec.ofInt (IntKind.bits .i64) (IntKind.wrap .i64 (x1 * (2 : Int) ^ (min 8 (IntKind.bits .i64))))) ||| (BitVec.ofInt (IntKind.bits .i64) (IntKind.wrap .i64 (PV.toI (nthP x0 (Int.toNat x2)))))) : Nat) : Int))) (IntKind.wrap .i64 (x2 + (1 : Int))))
  (some ([OV.flat (FV.val (PV.int .i64 x1)), OV.flat (FV.val (PV.int .i64 (8 : Int))), OV.flat (FV.val (PV.int .i64 (0 : Int)))], []))

noncomputable def f56_vestryref01_TakeNum.l0 (rec : Rec) (n : Nat) : Nat → List PV → Int → Int → Option (List OV × List OV)
  | 0, _, _, _ => none
  | m + 1, x0, x1, x2 => f56_vestryref01_TakeNum.l0.step rec n (f56_vestryref01_TakeNum.l0 rec n m) x0 x1 x2

theorem f56_vestryref01_TakeNum.l0_eq (rec : Rec) (n : Nat) : ∀ (m : Nat) (x0 : List PV) (x1 : Int) (x2 : Int), loopAt C rec n 56 [1, 1, 1, 0, 1, 0] [] m [(0, SV.home (OV.flat (FV.val (PV.sl none x0)))), (5, SV.home (OV.flat (FV.val (PV.int .i64 x1)))), (6, SV.home (OV.flat (FV.val (PV.int .i64 x2))))] = f56_vestryref01_TakeNum.l0 rec n m x0 x1 x2
  | 0, x0, x1, x2 => by kernel_rfl
  | m + 1, x0, x1, x2 => by
    have ih : (fun x0 x1 x2 => loopAt C rec n 56 [1, 1, 1, 0, 1, 0] [] m [(0, SV.home (OV.flat (FV.val (PV.sl none x0)))), (5, SV.home (OV.flat (FV.val (PV.int .i64 x1)))), (6, SV.home (OV.flat (FV.val (PV.int .i64 x2))))]) = f56_vestryref01_TakeNum.l0 rec n m := funext fun x0 => funext fun x1 => funext fun x2 => f56_vestryref01_TakeNum.l0_eq rec n m x0 x1 x2
    exact (show loopAt C rec n 56 [1, 1, 1, 0, 1, 0] [] (m + 1) [(0, SV.home (OV.flat (FV.val (PV.sl none x0)))), (5, SV.home (OV.flat (FV.val (PV.int .i64 x1)))), (6, SV.home (OV.flat (FV.val (PV.int .i64 x2))))] = f56_vestryref01_TakeNum.l0.step rec n (fun x0 x1 x2 => loopAt C rec n 56 [1, 1, 1, 0, 1, 0] [] m [(0, SV.home (OV.flat (FV.val (PV.sl none x0)))), (5, SV.home (OV.flat (FV.val (PV.int .i64 x1)))), (6, SV.home (OV.flat (FV.val (PV.int .i64 x2))))]) x0 x1 x2 from by kernel_rfl).trans (by rw [ih]; rfl)

noncomputable def f56_vestryref01_TakeNum.pre (rec : Rec) (n : Nat) (l0 : List PV → Int → Int → Option (List OV × List OV)) (a0 : List PV) : Option (List OV × List OV) :=
  ifB (decide (((List.length a0 : Nat) : Int) < (8 : Int)))
  (some ([OV.flat (FV.val (PV.int .i64 (0 : Int))), OV.flat (FV.val (PV.int .i64 (0 : Int))), OV.flat (FV.val (PV.int .i64 (3 : Int)))], []))
  (l0 a0 (0 : Int) (0 : Int))

noncomputable def f56_vestryref01_TakeNum (rec : Rec) (n : Nat) (a0 : List PV) : Option (List OV × List OV) := f56_vestryref01_TakeNum.pre rec n (f56_vestryref01_TakeNum.l0 rec n n) a0

theorem f56_vestryref01_TakeNum_eq (rec : Rec) (n : Nat) (a0 : List PV) : callBody C rec n 56 [OV.flat (FV.val (PV.sl none a0))] = f56_vestryref01_TakeNum rec n a0 := by
  have i0 : (fun x0 x1 x2 => loopAt C rec n 56 [1, 1, 1, 0, 1, 0] [] n [(0, SV.home (OV.flat (FV.val (PV.sl none x0)))), (5, SV.home (OV.flat (FV.val (PV.int .i64 x1)))), (6, SV.home (OV.flat (FV.val (PV.int .i64 x2))))]) = f56_vestryref01_TakeNum.l0 rec n n := funext fun x0 => funext fun x1 => funext fun x2 => f56_vestryref01_TakeNum.l0_eq rec n n x0 x1 x2
  exact (show callBody C rec n 56 [OV.flat (FV.val (PV.sl none a0))] = f56_vestryref01_TakeNum.pre rec n (fun x0 x1 x2 => loopAt C rec n 56 [1, 1, 1, 0, 1, 0] [] n [(0, SV.home (OV.flat (FV.val (PV.sl none x0)))), (5, SV.home (OV.flat (FV.val (PV.int .i64 x1)))), (6, SV.home (OV.flat (FV.val (PV.int .i64 x2))))]) a0 from by kernel_rfl).trans (by rw [i0]; rfl)

noncomputable def f65_plain_put.l0.step (rec : Rec) (n : Nat) (self_l0 : List PV → Int → Int → Option (List OV × List OV)) (x0 : List PV) (x1 : Int) (x2 : Int) : Option (List OV × List OV) :=
  ifB (decide (x2 ≥ (0 : Int)))
  (needB (decide ((0 : Int) ≤ x2)) <|
  needB (Nat.ble ((List.length x0 + List.length [PV.int .u8 (IntKind.wrap .u8 (Int.fdiv x1 ((2 : Int) ^ (min (Int.toNat x2) (IntKind.bits .i64)))))]) * 1) 140737488355328) <|
  needB (Nat.ble (List.length x0 + List.length [PV.int .u8 (IntKind.wrap .u8 (Int.fdiv x1 ((2 : Int) ^ (min (Int.toNat x2) (IntKind.bits .i64)))))]) 9223372036854775807) <|
  self_l0 (x0 ++ [PV.int .u8 (IntKind.wrap .u8 (Int.fdiv x1 ((2 : Int) ^ (min (Int.toNat x2) (IntKind.bits .i64)))))]) x1 (IntKind.wrap .i64 (x2 - (8 : Int))))
  (some ([OV.flat (FV.own none x0 [])], [OV.flat FV.gone, OV.flat FV.gone, OV.flat FV.gone]))

noncomputable def f65_plain_put.l0 (rec : Rec) (n : Nat) : Nat → List PV → Int → Int → Option (List OV × List OV)
  | 0, _, _, _ => none
  | m + 1, x0, x1, x2 => f65_plain_put.l0.step rec n (f65_plain_put.l0 rec n m) x0 x1 x2

theorem f65_plain_put.l0_eq (rec : Rec) (n : Nat) : ∀ (m : Nat) (x0 : List PV) (x1 : Int) (x2 : Int), loopAt C rec n 65 [1, 0, 1, 0] [] m [(0, SV.home (OV.flat (FV.own none x0 []))), (1, SV.home (OV.flat (FV.val (PV.int .i64 x1)))), (7, SV.home (OV.flat (FV.val (PV.int .i64 x2))))] = f65_plain_put.l0 rec n m x0 x1 x2
  | 0, x0, x1, x2 => by kernel_rfl
  | m + 1, x0, x1, x2 => by
    have ih : (fun x0 x1 x2 => loopAt C rec n 65 [1, 0, 1, 0] [] m [(0, SV.home (OV.flat (FV.own none x0 []))), (1, SV.home (OV.flat (FV.val (PV.int .i64 x1)))), (7, SV.home (OV.flat (FV.val (PV.int .i64 x2))))]) = f65_plain_put.l0 rec n m := funext fun x0 => funext fun x1 => funext fun x2 => f65_plain_put.l0_eq rec n m x0 x1 x2
    exact (show loopAt C rec n 65 [1, 0, 1, 0] [] (m + 1) [(0, SV.home (OV.flat (FV.own none x0 []))), (1, SV.home (OV.flat (FV.val (PV.int .i64 x1)))), (7, SV.home (OV.flat (FV.val (PV.int .i64 x2))))] = f65_plain_put.l0.step rec n (fun x0 x1 x2 => loopAt C rec n 65 [1, 0, 1, 0] [] m [(0, SV.home (OV.flat (FV.own none x0 []))), (1, SV.home (OV.flat (FV.val (PV.int .i64 x1)))), (7, SV.home (OV.flat (FV.val (PV.int .i64 x2))))]) x0 x1 x2 from by kernel_rfl).trans (by rw [ih]; rfl)

noncomputable def f65_plain_put.pre (rec : Rec) (n : Nat) (l0 : List PV → Int → Int → Option (List OV × List OV)) (a0 : List PV) (a1 : Int) (a2 : Int) : Option (List OV × List OV) :=
  l0 a0 a1 (IntKind.wrap .i64 ((8 : Int) * IntKind.wrap .i64 (a2 - (1 : Int))))

noncomputable def f65_plain_put (rec : Rec) (n : Nat) (a0 : List PV) (a1 : Int) (a2 : Int) : Option (List OV × List OV) := f65_plain_put.pre rec n (f65_plain_put.l0 rec n n) a0 a1 a2

theorem f65_plain_put_eq (rec : Rec) (n : Nat) (a0 : List PV) (a1 : Int) (a2 : Int) : callBody C rec n 65 [OV.flat (FV.own none a0 []), OV.flat (FV.val (PV.int .i64 a1)), OV.flat (FV.val (PV.int .i64 a2))] = f65_plain_put rec n a0 a1 a2 := by
  have i0 : (fun x0 x1 x2 => loopAt C rec n 65 [1, 0, 1, 0] [] n [(0, SV.home (OV.flat (FV.own none x0 []))), (1, SV.home (OV.flat (FV.val (PV.int .i64 x1)))), (7, SV.home (OV.flat (FV.val (PV.int .i64 x2))))]) = f65_plain_put.l0 rec n n := funext fun x0 => funext fun x1 => funext fun x2 => f65_plain_put.l0_eq rec n n x0 x1 x2
  exact (show callBody C rec n 65 [OV.flat (FV.own none a0 []), OV.flat (FV.val (PV.int .i64 a1)), OV.flat (FV.val (PV.int .i64 a2))] = f65_plain_put.pre rec n (fun x0 x1 x2 => loopAt C rec n 65 [1, 0, 1, 0] [] n [(0, SV.home (OV.flat (FV.own none x0 []))), (1, SV.home (OV.flat (FV.val (PV.int .i64 x1)))), (7, SV.home (OV.flat (FV.val (PV.int .i64 x2))))]) a0 a1 a2 from by kernel_rfl).trans (by rw [i0]; rfl)

noncomputable def f66_bytes_Replace.l0.step (rec : Rec) (n : Nat) (self_l0 : List PV → List PV → List PV → List PV → Int → Int → Int → Int → Option (List OV × List OV)) (x0 : List PV) (x1 : List PV) (x2 : List PV) (x3 : List PV) (x4 : Int) (x5 : Int) (x6 : Int) (x7 : Int) : Option (List OV × List OV) :=
  ifB (decide (x7 < x6))
  (needB (decide ((0 : Int) ≤ x5)) <|
  needB (decide (x5 ≤ ((List.length x0 : Nat) : Int))) <|
  callB (rec 80 [OV.flat (FV.val (PV.sl none (List.drop (Int.toNat x5) x0))), OV.flat (FV.val (PV.sl none x1))]) fun r2 => needB (okOs Go.Proofs.Tryd.prog [3] [] (Prod.fst r2)) <|
  needB (decide ((0 : Int) ≤ x4)) <|
  needB (decide (x4 ≤ ((List.length x3 : Nat) : Int))) <|
  needB (decide ((0 : Int) ≤ x5)) <|
  needB (decide (x5 ≤ IntKind.wrap .i64 (x5 + PV.toI (FV.pv (OV.fv (List.headD (Prod.fst r2) (OV.flat FV.gone))))))) <|
  needB (decide (IntKind.wrap .i64 (x5 + PV.toI (FV.pv (OV.fv (List.headD (Prod.fst r2) (OV.flat FV.gone))))) ≤ ((List.length x0 : Nat) : Int))) <|
  needB (Nat.blt 0 (List.length x3)) <|
  needB (decide ((0 : Int) ≤ IntKind.wrap .i64 (x4 + ((Nat.min (List.length (List.drop (Int.toNat x5) (List.take (Int.toNat (IntKind.wrap .i64 (x5 + PV.toI (FV.pv (OV.fv (List.headD (Prod.fst r2) (OV.flat FV.gone))))))) x0))) ((List.length x3) - (Int.toNat x4)) : Nat) : Int)))) <|
  needB (decide (IntKind.wrap .i64 (x4 + ((Nat.min (List.length (List.drop (Int.toNat x5) (List.take (Int.toNat (IntKind.wrap .i64 (x5 + PV.toI (FV.pv (OV.fv (List.headD (Prod.fst r2) (OV.flat FV.gone))))))) x0))) ((List.length x3) - (Int.toNat x4)) : Nat) : Int)) ≤ ((List.length (List.take (Int.toNat x4) x3 ++ List.take (Nat.min (List.length (List.drop (Int.toNat x5) (List.take (Int.toNat (IntKind.wrap .i64 (x5 + PV.toI (FV.pv (OV.fv (List.headD (Prod.fst r2) (OV.flat FV.gone))))))) x0))) ((List.length x3) - (Int.toNat x4))) (List.drop (Int.toNat x5) (List.take (Int.toNat (IntKind.wrap .i64 (x5 + PV.toI (FV.pv (OV.fv (List.headD (Prod.fst r2) (OV.flat FV.gone))))))) x0)) ++ List.drop ((Int.toNat x4) + Nat.min (List.length (List.drop (Int.toNat x5) (List.take (Int.toNat (IntKind.wrap .i64 (x5 + PV.toI (FV.pv (OV.fv (List.headD (Prod.fst r2) (OV.flat FV.gone))))))) x0))) ((List.length x3) - (Int.toNat x4))) x3) : Nat) : Int))) <|
  needB (Nat.blt 0 (List.length (List.take (Int.toNat x4) x3 ++ List.take (Nat.min (List.length (List.drop (Int.toNat x5) (List.take (Int.toNat (IntKind.wrap .i64 (x5 + PV.toI (FV.pv (OV.fv (List.headD (Prod.fst r2) (OV.flat FV.gone))))))) x0))) ((List.length x3) - (Int.toNat x4))) (List.drop (Int.toNat x5) (List.take (Int.toNat (IntKind.wrap .i64 (x5 + PV.toI (FV.pv (OV.fv (List.headD (Prod.fst r2) (OV.flat FV.gone))))))) x0)) ++ List.drop ((Int.toNat x4) + Nat.min (List.length (List.drop (Int.toNat x5) (List.take (Int.toNat (IntKind.wrap .i64 (x5 + PV.toI (FV.pv (OV.fv (List.headD (Prod.fst r2) (OV.flat FV.gone))))))) x0))) ((List.length x3) - (Int.toNat x4))) x3))) <|
  self_l0 x0 x1 x2 (List.take (Int.toNat (IntKind.wrap .i64 (x4 + ((Nat.min (List.length (List.drop (Int.toNat x5) (List.take (Int.toNat (IntKind.wrap .i64 (x5 + PV.toI (FV.pv (OV.fv (List.headD (Prod.fst r2) (OV.flat FV.gone))))))) x0))) ((List.length x3) - (Int.toNat x4)) : Nat) : Int)))) (List.take (Int.toNat x4) x3 ++ List.take (Nat.min (List.length (List.drop (Int.toNat x5) (List.take (Int.toNat (IntKind.wrap .i64 (x5 + PV.toI (FV.pv (OV.fv (List.headD (Prod.fst r2) (OV.flat FV.gone))))))) x0))) ((List.length x3) - (Int.toNat x4))) (List.drop (Int.toNat x5) (List.take (Int.toNat (IntKind.wrap .i64 (x5 + PV.toI (FV.pv (OV.fv (List.headD (Prod.fst r2) (OV.flat FV.gone))))))) x0)) ++ List.drop ((Int.toNat x4) + Nat.min (List.length (List.drop (Int.toNat x5) (List.take (Int.toNat (IntKind.wrap .i64 (x5 + PV.toI (FV.pv (OV.fv (List.headD (Prod.fst r2) (OV.flat FV.gone))))))) x0))) ((List.length x3) - (Int.toNat x4))) x3) ++ List.take (Nat.min (List.length x2) ((List.length (List.take (Int.toNat x4) x3 ++ List.take (Nat.min (List.length (List.drop (Int.toNat x5) (List.take (Int.toNat (IntKind.wrap .i64 (x5 + PV.toI (FV.pv (OV.fv (List.headD (Prod.fst r2) (OV.flat FV.gone))))))) x0))) ((List.length x3) - (Int.toNat x4))) (List.drop (Int.toNat x5) (List.take (Int.toNat (IntKind.wrap .i64 (x5 + PV.toI (FV.pv (OV.fv (List.headD (Prod.fst r2) (OV.flat FV.gone))))))) x0)) ++ List.drop ((Int.toNat x4) + Nat.min (List.length (List.drop (Int.toNat x5) (List.take (Int.toNat (IntKind.wrap .i64 (x5 + PV.toI (FV.pv (OV.fv (List.headD (Prod.fst r2) (OV.flat FV.gone))))))) x0))) ((List.length x3) - (Int.toNat x4))) x3)) - (Int.toNat (IntKind.wrap .i64 (x4 + ((Nat.min (List.length (List.drop (Int.toNat x5) (List.take (Int.toNat (IntKind.wrap .i64 (x5 + PV.toI (FV.pv (OV.fv (List.headD (Prod.fst r2) (OV.flat FV.gone))))))) x0))) ((List.length x3) - (Int.toNat x4)) : Nat) : Int)))))) x2 ++ List.drop ((Int.toNat (IntKind.wrap .i64 (x4 + ((Nat.min (List.length (List.drop (Int.toNat x5) (List.take (Int.toNat (IntKind.wrap .i64 (x5 + PV.toI (FV.pv (OV.fv (List.headD (Prod.fst r2) (OV.flat FV.gone))))))) x0))) ((List.length x3) - (Int.toNat x4)) : Nat) : Int)))) + Nat.min (List.length x2) ((List.length (List.take (Int.toNat x4) x3 ++ List.take (Nat.min (List.length (List.drop (Int.toNat x5) (List.take (Int.toNat (IntKind.wrap .i64 (x5 + PV.toI (FV.pv (OV.fv (List.headD (Prod.fst r2) (OV.flat FV.gone))))))) x0))) ((List.length x3) - (Int.toNat x4))) (List.drop (Int.toNat x5) (List.take (Int.toNat (IntKind.wrap .i64 (x5 + PV.toI (FV.pv (OV.fv (List.headD (Prod.fst r2) (OV.flat FV.gone))))))) x0)) ++ List.drop ((Int.toNat x4) + Nat.min (List.length (List.drop (Int.toNat x5) (List.take (Int.toNat (IntKind.wrap .i64 (x5 + PV.toI (FV.pv (OV.fv (List.headD (Prod.fst r2) (OV.flat FV.gone))))))) x0))) ((List.length x3) - (Int.toNat x4))) x3)) - (Int.toNat (IntKind.wrap .i64 (x4 + ((Nat.min (List.length (List.drop (Int.toNat x5) (List.take (Int.toNat (IntKind.wrap .i64 (x5 + PV.toI (FV.pv (OV.fv (List.headD (Prod.fst r2) (OV.flat FV.gone))))))) x0))) ((List.length x3) - (Int.toNat x4)) : Nat) : Int)))))) (List.take (Int.toNat x4) x3 ++ List.take (Nat.min (List.length (List.drop (Int.toNat x5) (List.take (Int.toNat (IntKind.wrap .i64 (x5 + PV.toI (FV.pv (OV.fv (List.headD (Prod.fst r2) (OV.flat FV.gone))))))) x0))) ((List.length x3) - (Int.toNat x4))) (List.drop (Int.toNat x5) (List.take (Int.toNat (IntKind.wrap .i64 (x5 + PV.toI (FV.pv (OV.fv (List.headD (Prod.fst r2) (OV.flat FV.gone))))))) x0)) ++ List.drop ((Int.toNat x4) + Nat.min (List.length (List.drop (Int.toNat x5) (List.take (Int.toNat (IntKind.wrap .i64 (x5 + PV.toI (FV.pv (OV.fv (List.headD (Prod.fst r2) (OV.flat FV.gone))))))) x0))) ((List.length x3) - (Int.toNat x4))) x3)) (IntKind.wrap .i64 (IntKind.wrap .i64 (x4 + ((Nat.min (List.length (List.drop (Int.toNat x5) (List.take (Int.toNat (IntKind.wrap .i64 (x5 + PV.toI (FV.pv (OV.fv (List.headD (Prod.fst r2) (OV.flat FV.gone))))))) x0))) ((List.length x3) - (Int.toNat x4)) : Nat) : Int)) + ((Nat.min (List.length x2) ((List.length (List.take (Int.toNat x4) x3 ++ List.take (Nat.min (List.length (List.drop (Int.toNat x5) (List.take (Int.toNat (IntKind.wrap .i64 (x5 + PV.toI (FV.pv (OV.fv (List.headD (Prod.fst r2) (OV.flat FV.gone))))))) x0))) ((List.length x3) - (Int.toNat x4))) (List.drop (Int.toNat x5) (List.take (Int.toNat (IntKind.wrap .i64 (x5 + PV.toI (FV.pv (OV.fv (List.headD (Prod.fst r2) (OV.flat FV.gone))))))) x0)) ++ List.drop ((Int.toNat x4) + Nat.min (List.length (List.drop (Int.toNat x5) (List.take (Int.toNat (IntKind.wrap .i64 (x5 + PV.toI (FV.pv (OV.fv (List.headD (Prod.fst r2) (OV.flat FV.gone))))))) x0))) ((List.length x3) - (Int.toNat x4))) x3)) - (Int.toNat (IntKind.wrap .i64 (x4 + ((Nat.min (List.length (List.drop (Int.toNat x5) (List.take (Int.toNat (IntKind.wrap .i64 (x5 + PV.toI (FV.pv (OV.fv (List.headD (Prod.fst r2) (OV.flat FV.gone))))))) x0))) ((List.length x3) - (Int.toNat x4)) : Nat) : Int))))) : Nat) : Int))) (IntKind.wrap .i64 (IntKind.wrap .i64 (x5 + PV.toI (FV.pv (OV.fv (List.headD (Prod.fst r2) (OV.flat FV.gone))))) + ((List.length x1 : Nat) : Int))) x6 (IntKind.wrap .i64 (x7 + (1 : Int))))
  (needB (decide ((0 : Int) ≤ x4)) <|
  needB (decide (x4 ≤ ((List.length x3 : Nat) : Int))) <|
  needB (decide ((0 : Int) ≤ x5)) <|
  needB (decide (x5 ≤ ((List.length x0 : Nat) : Int))) <|
  needB (Nat.blt 0 (List.length x3)) <|
  needB (decide ((0 : Int) ≤ IntKind.wrap .i64 (x4 + ((Nat.min (List.length (List.drop (Int.toNat x5) x0)) ((List.length x3) - (Int.toNat x4)) : Nat) : Int)))) <|
  needB (decide (IntKind.wrap .i64 (x4 + ((Nat.min (List.length (List.drop (Int.toNat x5) x0)) ((List.length x3) - (Int.toNat x4)) : Nat) : Int)) ≤ ((List.length (List.take (Int.toNat x4) x3 ++ List.take (Nat.min (List.length (List.drop (Int.toNat x5) x0)) ((List.length x3) - (Int.toNat x4))) (List.drop (Int.toNat x5) x0) ++ List.drop ((Int.toNat x4) + Nat.min (List.length (List.drop (Int.toNat x5) x0)) ((List.length x3) - (Int.toNat x4))) x3) : Nat) : Int))) <|
  some ([OV.flat (FV.own none (List.take (Int.toNat (IntKind.wrap .i64 (x4 + ((Nat.min (List.length (List.drop (Int.toNat x5) x0)) ((List.length x3) - (Int.toNat x4)) : Nat) : Int)))) (List.take (Int.toNat x4) x3 ++ List.take (Nat.min (List.length (List.drop (Int.toNat x5) x0)) ((List.length x3) - (Int.toNat x4))) (List.drop (Int.toNat x5) x0) ++ List.drop ((Int.toNat x4) + Nat.min (List.length (List.drop (Int.toNat x5) x0)) ((List.length x3) - (Int.toNat x4))) x3)) [])], []))

noncomputable def f66_bytes_Replace.l0 (rec : Rec) (n : Nat) : Nat → List PV → List PV → List PV → List PV → Int → Int → Int → Int → Option (List OV × List OV)
  | 0, _, _, _, _, _, _, _, _ => none
  | m + 1, x0, x1, x2, x3, x4, x5, x6, x7 => f66_bytes_Replace.l0.step rec n (f66_bytes_Replace.l0 rec n m) x0 x1 x2 x3 x4 x5 x6 x7

theorem f66_bytes_Replace.l0_eq (rec : Rec) (n : Nat) : ∀ (m : Nat) (x0 : List PV) (x1 : List PV) (x2 : List PV) (x3 : List PV) (x4 : Int) (x5 : Int) (x6 : Int) (x7 : Int), loopAt C rec n 66 [1, 1, 1, 1, 1, 1, 1, 1, 0, 1, 0, 1, 0] [] m [(0, SV.home (OV.flat (FV.val (PV.sl none x0)))), (1, SV.home (OV.flat (FV.val (PV.sl none x1)))), (2, SV.home (OV.flat (FV.val (PV.sl none x2)))), (10, SV.home (OV.flat (FV.own none x3 []))), (11, SV.home (OV.flat (FV.val (PV.int .i64 x4)))), (12, SV.home (OV.flat (FV.val (PV.int .i64 x5)))), (48, SV.home (OV.flat (FV.val (PV.int .i64 x6)))), (49, SV.home (OV.flat (FV.val (PV.int .i64 x7))))] = f66_bytes_Replace.l0 rec n m x0 x1 x2 x3 x4 x5 x6 x7
  | 0, x0, x1, x2, x3, x4, x5, x6, x7 => by kernel_rfl
  | m + 1, x0, x1, x2, x3, x4, x5, x6, x7 => by
    have ih : (fun x0 x1 x2 x3 x4 x5 x6 x7 => loopAt C rec n 66 [1, 1, 1, 1, 1, 1, 1, 1, 0, 1, 0, 1, 0] [] m [(0, SV.home (OV.flat (FV.val (PV.sl none x0)))), (1, SV.home (OV.flat (FV.val (PV.sl none x1)))), (2, SV.home (OV.flat (FV.val (PV.sl none x2)))), (10, SV.home (OV.flat (FV.own none x3 []))), (11, SV.home (OV.flat (FV.val (PV.int .i64 x4)))), (12, SV.home (OV.flat (FV.val (PV.int .i64 x5)))), (48, SV.home (OV.flat (FV.val (PV.int .i64 x6)))), (49, SV.home (OV.flat (FV.val (PV.int .i64 x7))))]) = f66_bytes_Replace.l0 rec n m := funext fun x0 => funext fun x1 => funext fun x2 => funext fun x3 => funext fun x4 => funext fun x5 => funext fun x6 => funext fun x7 => f66_bytes_Replace.l0_eq rec n m x0 x1 x2 x3 x4 x5 x6 x7
    exact (show loopAt C rec n 66 [1, 1, 1, 1, 1, 1, 1, 1, 0, 1, 0, 1, 0] [] (m + 1) [(0, SV.home (OV.flat (FV.val (PV.sl none x0)))), (1, SV.home (OV.flat (FV.val (PV.sl none x1)))), (2, SV.home (OV.flat (FV.val (PV.sl none x2)))), (10, SV.home (OV.flat (FV.own none x3 []))), (11, SV.home (OV.flat (FV.val (PV.int .i64 x4)))), (12, SV.home (OV.flat (FV.val (PV.int .i64 x5)))), (48, SV.home (OV.flat (FV.val (PV.int .i64 x6)))), (49, SV.home (OV.flat (FV.val (PV.int .i64 x7))))] = f66_bytes_Replace.l0.step rec n (fun x0 x1 x2 x3 x4 x5 x6 x7 => loopAt C rec n 66 [1, 1, 1, 1, 1, 1, 1, 1, 0, 1, 0, 1, 0] [] m [(0, SV.home (OV.flat (FV.val (PV.sl none x0)))), (1, SV.home (OV.flat (FV.val (PV.sl none x1)))), (2, SV.home (OV.flat (FV.val (PV.sl none x2)))), (10, SV.home (OV.flat (FV.own none x3 []))), (11, SV.home (OV.flat (FV.val (PV.int .i64 x4)))), (12, SV.home (OV.flat (FV.val (PV.int .i64 x5)))), (48, SV.home (OV.flat (FV.val (PV.int .i64 x6)))), (49, SV.home (OV.flat (FV.val (PV.int .i64 x7))))]) x0 x1 x2 x3 x4 x5 x6 x7 from by kernel_rfl).trans (by rw [ih]; rfl)

noncomputable def f66_bytes_Replace.pre (rec : Rec) (n : Nat) (l0 : List PV → List PV → List PV → List PV → Int → Int → Int → Int → Option (List OV × List OV)) (a0 : List PV) (a1 : Int) (a2 : Int) (a3 : Int) : Option (List OV × List OV) :=
  callB (rec 79 [OV.flat (FV.val (PV.sl none a0)), OV.flat (FV.val (PV.sl none [PV.int .u8 a1]))]) fun r1 => needB (okOs Go.Proofs.Tryd.prog [3] [] (Prod.fst r1)) <|
  ifB (PV.toI (FV.pv (OV.fv (List.headD (Prod.fst r1) (OV.flat FV.gone)))) == (0 : Int))
  (needB (Nat.ble ((List.length ([] : List PV) + List.length a0) * 1) 140737488355328) <|
  needB (Nat.ble (List.length ([] : List PV) + List.length a0) 9223372036854775807) <|
  some ([OV.flat (FV.own none ([] ++ a0) [])], []))
  (needB (decide ((0 : Int) ≤ IntKind.wrap .i64 (((List.length a0 : Nat) : Int) + IntKind.wrap .i64 (PV.toI (FV.pv (OV.fv (List.headD (Prod.fst r1) (OV.flat FV.gone)))) * (1 : Int))))) <|
  needB (IntKind.wrap .i64 (((List.length a0 : Nat) : Int) + IntKind.wrap .i64 (PV.toI (FV.pv (OV.fv (List.headD (Prod.fst r1) (OV.flat FV.gone)))) * (1 : Int))) == IntKind.wrap .i64 (((List.length a0 : Nat) : Int) + IntKind.wrap .i64 (PV.toI (FV.pv (OV.fv (List.headD (Prod.fst r1) (OV.flat FV.gone)))) * (1 : Int)))) <|
  needB (Nat.ble (1 * (Int.toNat (IntKind.wrap .i64 (((List.length a0 : Nat) : Int) + IntKind.wrap .i64 (PV.toI (FV.pv (OV.fv (List.headD (Prod.fst r1) (OV.flat FV.gone)))) * (1 : Int)))))) 140737488355328) <|
  needB (Nat.ble (Int.toNat (IntKind.wrap .i64 (((List.length a0 : Nat) : Int) + IntKind.wrap .i64 (PV.toI (FV.pv (OV.fv (List.headD (Prod.fst r1) (OV.flat FV.gone)))) * (1 : Int))))) 9223372036854775807) <|
  l0 a0 [PV.int .u8 a1] [PV.int .u8 a2, PV.int .u8 a3] (List.replicate (Int.toNat (IntKind.wrap .i64 (((List.length a0 : Nat) : Int) + IntKind.wrap .i64 (PV.toI (FV.pv (OV.fv (List.headD (Prod.fst r1) (OV.flat FV.gone)))) * (1 : Int))))) (PV.int .u8 (0 : Int))) (0 : Int) (0 : Int) (PV.toI (FV.pv (OV.fv (List.headD (Prod.fst r1) (OV.flat FV.gone))))) (0 : Int))

noncomputable def f66_bytes_Replace (rec : Rec) (n : Nat) (a0 : List PV) (a1 : Int) (a2 : Int) (a3 : Int) : Option (List OV × List OV) := f66_bytes_Replace.pre rec n (f66_bytes_Replace.l0 rec n n) a0 a1 a2 a3

theorem f66_bytes_Replace_eq (rec : Rec) (n : Nat) (a0 : List PV) (a1 : Int) (a2 : Int) (a3 : Int) : callBody C rec n 66 [OV.flat (FV.val (PV.sl none a0)), OV.flat (FV.val (PV.sl none [PV.int .u8 a1])), OV.flat (FV.val (PV.sl none [PV.int .u8 a2, PV.int .u8 a3])), OV.flat (FV.val (PV.int .i64 (-1 : Int)))] = f66_bytes_Replace rec n a0 a1 a2 a3 := by
  have i0 : (fun x0 x1 x2 x3 x4 x5 x6 x7 => loopAt C rec n 66 [1, 1, 1, 1, 1, 1, 1, 1, 0, 1, 0, 1, 0] [] n [(0, SV.home (OV.flat (FV.val (PV.sl none x0)))), (1, SV.home (OV.flat (FV.val (PV.sl none x1)))), (2, SV.home (OV.flat (FV.val (PV.sl none x2)))), (10, SV.home (OV.flat (FV.own none x3 []))), (11, SV.home (OV.flat (FV.val (PV.int .i64 x4)))), (12, SV.home (OV.flat (FV.val (PV.int .i64 x5)))), (48, SV.home (OV.flat (FV.val (PV.int .i64 x6)))), (49, SV.home (OV.flat (FV.val (PV.int .i64 x7))))]) = f66_bytes_Replace.l0 rec n n := funext fun x0 => funext fun x1 => funext fun x2 => funext fun x3 => funext fun x4 => funext fun x5 => funext fun x6 => funext fun x7 => f66_bytes_Replace.l0_eq rec n n x0 x1 x2 x3 x4 x5 x6 x7
  exact (show callBody C rec n 66 [OV.flat (FV.val (PV.sl none a0)), OV.flat (FV.val (PV.sl none [PV.int .u8 a1])), OV.flat (FV.val (PV.sl none [PV.int .u8 a2, PV.int .u8 a3])), OV.flat (FV.val (PV.int .i64 (-1 : Int)))] = f66_bytes_Replace.pre rec n (fun x0 x1 x2 x3 x4 x5 x6 x7 => loopAt C rec n 66 [1, 1, 1, 1, 1, 1, 1, 1, 0, 1, 0, 1, 0] [] n [(0, SV.home (OV.flat (FV.val (PV.sl none x0)))), (1, SV.home (OV.flat (FV.val (PV.sl none x1)))), (2, SV.home (OV.flat (FV.val (PV.sl none x2)))), (10, SV.home (OV.flat (FV.own none x3 []))), (11, SV.home (OV.flat (FV.val (PV.int .i64 x4)))), (12, SV.home (OV.flat (FV.val (PV.int .i64 x5)))), (48, SV.home (OV.flat (FV.val (PV.int .i64 x6)))), (49, SV.home (OV.flat (FV.val (PV.int .i64 x7))))]) a0 a1 a2 a3 from by kernel_rfl).trans (by rw [i0]; rfl)

noncomputable def f67_plain_take.l0.step (rec : Rec) (n : Nat) (self_l0 : Int → List PV → Int → Int → Option (List OV × List OV)) (x0 : Int) (x1 : List PV) (x2 : Int) (x3 : Int) : Option (List OV × List OV) :=
  ifB (decide (x3 < x2))
  (needB (decide ((0 : Int) ≤ x3)) <|
  needB (decide (x3 < ((List.length x1 : Nat) : Int))) <|
  needB (hasT Go.Proofs.Tryd.prog 5 (nthP x1 (Int.toNat x3))) <|
  self_l0 (IntKind.wrap .i64 (((BitVec.toNat ((BitVec.ofInt (IntKind.bits .i64) (IntKind.wrap .i64 (x0 * (2 : Int) ^ (min 8 (IntKind.bits .i64))))) ||| (BitVec.ofInt (IntKind.bits .i64) (IntKind.wrap .i64 (PV.toI (nthP x1 (Int.toNat x3)))))) : Nat) : Int))) x1 x2 (IntKind.wrap .i64 (x3 + (1 : Int))))
  (some ([OV.flat (FV.val (PV.int .i64 x0)), OV.flat (FV.val (PV.bool true))], []))

noncomputable def f67_plain_take.l0 (rec : Rec) (n : Nat) : Nat → Int → List PV → Int → Int → Option (List OV × List OV)
  | 0, _, _, _, _ => none
  | m + 1, x0, x1, x2, x3 => f67_plain_take.l0.step rec n (f67_plain_take.l0 rec n m) x0 x1 x2 x3

theorem f67_plain_take.l0_eq (rec : Rec) (n : Nat) : ∀ (m : Nat) (x0 : Int) (x1 : List PV) (x2 : Int) (x3 : Int), loopAt C rec n 67 [1, 1, 1, 0, 1, 0] [] m [(6, SV.home (OV.flat (FV.val (PV.int .i64 x0)))), (15, SV.home (OV.flat (FV.val (PV.sl none x1)))), (16, SV.home (OV.flat (FV.val (PV.int .i64 x2)))), (17, SV.home (OV.flat (FV.val (PV.int .i64 x3))))] = f67_plain_take.l0 rec n m x0 x1 x2 x3
  | 0, x0, x1, x2, x3 => by kernel_rfl
  | m + 1, x0, x1, x2, x3 => by
    have ih : (fun x0 x1 x2 x3 => loopAt C rec n 67 [1, 1, 1, 0, 1, 0] [] m [(6, SV.home (OV.flat (FV.val (PV.int .i64 x0)))), (15, SV.home (OV.flat (FV.val (PV.sl none x1)))), (16, SV.home (OV.flat (FV.val (PV.int .i64 x2)))), (17, SV.home (OV.flat (FV.val (PV.int .i64 x3))))]) = f67_plain_take.l0 rec n m := funext fun x0 => funext fun x1 => funext fun x2 => funext fun x3 => f67_plain_take.l0_eq rec n m x0 x1 x2 x3
    exact (show loopAt C rec n 67 [1, 1, 1, 0, 1, 0] [] (m + 1) [(6, SV.home (OV.flat (FV.val (PV.int .i64 x0)))), (15, SV.home (OV.flat (FV.val (PV.sl none x1)))), (16, SV.home (OV.flat (FV.val (PV.int .i64 x2)))), (17, SV.home (OV.flat (FV.val (PV.int .i64 x3))))] = f67_plain_take.l0.step rec n (fun x0 x1 x2 x3 => loopAt C rec n 67 [1, 1, 1, 0, 1, 0] [] m [(6, SV.home (OV.flat (FV.val (PV.int .i64 x0)))), (15, SV.home (OV.flat (FV.val (PV.sl none x1)))), (16, SV.home (OV.flat (FV.val (PV.int .i64 x2)))), (17, SV.home (OV.flat (FV.val (PV.int .i64 x3))))]) x0 x1 x2 x3 from by kernel_rfl).trans (by rw [ih]; rfl)

noncomputable def f67_plain_take.pre (rec : Rec) (n : Nat) (l0 : Int → List PV → Int → Int → Option (List OV × List OV)) (a0 : List PV) (a1 : Int) : Option (List OV × List OV) :=
  ifB (decide (((List.length a0 : Nat) : Int) < a1))
  (some ([OV.flat (FV.val (PV.int .i64 (0 : Int))), OV.flat (FV.val (PV.bool false))], []))
  (needB (decide ((0 : Int) ≤ a1)) <|
  needB (decide (a1 ≤ ((List.length a0 : Nat) : Int))) <|
  l0 (0 : Int) (List.take (Int.toNat a1) a0) ((List.length (List.take (Int.toNat a1) a0) : Nat) : Int) (0 : Int))

noncomputable def f67_plain_take (rec : Rec) (n : Nat) (a0 : List PV) (a1 : Int) : Option (List OV × List OV) := f67_plain_take.pre rec n (f67_plain_take.l0 rec n n) a0 a1

theorem f67_plain_take_eq (rec : Rec) (n : Nat) (a0 : List PV) (a1 : Int) : callBody C rec n 67 [OV.flat (FV.val (PV.sl none a0)), OV.flat (FV.val (PV.int .i64 a1))] = f67_plain_take rec n a0 a1 := by
  have i0 : (fun x0 x1 x2 x3 => loopAt C rec n 67 [1, 1, 1, 0, 1, 0] [] n [(6, SV.home (OV.flat (FV.val (PV.int .i64 x0)))), (15, SV.home (OV.flat (FV.val (PV.sl none x1)))), (16, SV.home (OV.flat (FV.val (PV.int .i64 x2)))), (17, SV.home (OV.flat (FV.val (PV.int .i64 x3))))]) = f67_plain_take.l0 rec n n := funext fun x0 => funext fun x1 => funext fun x2 => funext fun x3 => f67_plain_take.l0_eq rec n n x0 x1 x2 x3
  exact (show callBody C rec n 67 [OV.flat (FV.val (PV.sl none a0)), OV.flat (FV.val (PV.int .i64 a1))] = f67_plain_take.pre rec n (fun x0 x1 x2 x3 => loopAt C rec n 67 [1, 1, 1, 0, 1, 0] [] n [(6, SV.home (OV.flat (FV.val (PV.int .i64 x0)))), (15, SV.home (OV.flat (FV.val (PV.sl none x1)))), (16, SV.home (OV.flat (FV.val (PV.int .i64 x2)))), (17, SV.home (OV.flat (FV.val (PV.int .i64 x3))))]) a0 a1 from by kernel_rfl).trans (by rw [i0]; rfl)

noncomputable def f80_bytes_Index (rec : Rec) (n : Nat) (a0 : List PV) (a1 : Int) : Option (List OV × List OV) :=
  needB (decide ((0 : Int) < ((List.length [PV.int .u8 a1] : Nat) : Int))) <|
  needB (hasT Go.Proofs.Tryd.prog 5 (nthP [PV.int .u8 a1] 0)) <|
  callB (rec 54 [OV.flat (FV.val (PV.sl none a0)), OV.flat (FV.val (PV.int .u8 (PV.toI (nthP [PV.int .u8 a1] 0))))]) fun r1 => needB (okOs Go.Proofs.Tryd.prog [3] [] (Prod.fst r1)) <|
  some ([OV.flat (FV.val (PV.int .i64 (PV.toI (FV.pv (OV.fv (List.headD (Prod.fst r1) (OV.flat FV.gone)))))))], [])

theorem f80_bytes_Index_eq (rec : Rec) (n : Nat) (a0 : List PV) (a1 : Int) : callBody C rec n 80 [OV.flat (FV.val (PV.sl none a0)), OV.flat (FV.val (PV.sl none [PV.int .u8 a1]))] = f80_bytes_Index rec n a0 a1 := by kernel_rfl

end Go.Proofs.YtgcjhapomljekaaDoor

