/- What the functions answer, and the laws. -/
import Derived.Test.YthkmnomnfmjffaaCtx

set_option linter.unusedVariables false

set_option linter.unusedSimpArgs false

set_option linter.unusedSectionVars false

open Go Go.Ev

set_option linter.unusedVariables false

set_option maxRecDepth 100000

namespace Go.Proofs.Ythkmnomnfmjffaa

noncomputable def f4_vestrylaw01_PlainRows (rec : Rec) (n : Nat) (a0 : List PV) (a1 : List PV) : Option (List OV × List OV) :=
  callB (rec 8 []) fun r1 => needB (okOs Go.Proofs.Try.prog [4] [] (Prod.fst r1)) <|
  callB (rec 9 [OV.flat (FV.val (PV.sl none a1))]) fun r2 => needB (okOs Go.Proofs.Try.prog [22] [.os] (Prod.fst r2)) <|
  callB (rec 16 [OV.flat (FV.val (PV.sl none a0))]) fun r3 => needB (okOs Go.Proofs.Try.prog [22, 25] [.o, .v] (Prod.fst r3)) <|
  callB (rec 17 [OV.flat (FV.val (PV.sl none (FV.xs (OV.fv (List.headD (Prod.fst r2) (OV.flat FV.gone))))))]) fun r4 => needB (okOs Go.Proofs.Try.prog [32, 3, 25] [.n, .v, .v] (Prod.fst r4)) <|
  callB (rec 18 [OV.flat (FV.val (PV.sl none a0))]) fun r5 => needB (okOs Go.Proofs.Try.prog [22, 25] [.o, .v] (Prod.fst r5)) <|
  callB (rec 19 [OV.flat (FV.val (PV.sl none a1))]) fun r6 => needB (okOs Go.Proofs.Try.prog [32, 3, 25] [.v, .v, .v] (Prod.fst r6)) <|
  callB (rec 14 [OV.flat (FV.own none (FV.xs (OV.fv (List.headD (Prod.fst r2) (OV.flat FV.gone)))) (FV.sp (OV.fv (List.headD (Prod.fst r2) (OV.flat FV.gone))))), OV.flat (FV.val (PV.sl none a1))]) fun r7 => needB (okOs Go.Proofs.Try.prog [4] [] (Prod.fst r7)) <|
  needB (okOuts Go.Proofs.Try.prog [22, 22] [.io .os, .ro] (Prod.snd r7)) <|
  needB (List.all (FV.xs (OV.fv (List.headD (Prod.fst r3) (OV.flat FV.gone)))) isByte) <|
  needB (List.all (FV.xs (OV.fv (List.headD (Prod.fst r5) (OV.flat FV.gone)))) isByte) <|
  ifB ((List.map u8Of (FV.xs (OV.fv (List.headD (Prod.fst r3) (OV.flat FV.gone))))) == (List.map u8Of (FV.xs (OV.fv (List.headD (Prod.fst r5) (OV.flat FV.gone))))))
  (callB (rec 20 [OV.flat (FV.val (PV.sl none (List.map FV.frz (OV.cells (List.headD (Prod.fst r4) (OV.flat FV.gone)))))), OV.flat (FV.val (PV.sl none (PV.toL (FV.pv (OV.fv (List.headD (Prod.fst r6) (OV.flat FV.gone)))))))]) fun r8 => needB (okOs Go.Proofs.Try.prog [4] [] (Prod.fst r8)) <|
  needB (Nat.ble ((List.length [FV.own none (FV.xs (OV.fv (List.headD (Prod.fst r3) (OV.flat FV.gone)))) []] + List.length (OV.cells (List.headD (Prod.fst r4) (OV.flat FV.gone)))) * 24) 140737488355328) <|
  needB (Nat.ble (List.length [FV.own none (FV.xs (OV.fv (List.headD (Prod.fst r3) (OV.flat FV.gone)))) []] + List.length (OV.cells (List.headD (Prod.fst r4) (OV.flat FV.gone)))) 9223372036854775807) <|
  needB (Nat.ble ((List.length ([FV.own none (FV.xs (OV.fv (List.headD (Prod.fst r3) (OV.flat FV.gone)))) []] ++ (OV.cells (List.headD (Prod.fst r4) (OV.flat FV.gone)))) + List.length [FV.own none (FV.xs (OV.fv (List.headD (Prod.snd r7) (OV.flat FV.gone)))) (FV.sp (OV.fv (List.headD (Prod.snd r7) (OV.flat FV.gone))))]) * 24) 140737488355328) <|
  needB (Nat.ble (List.length ([FV.own none (FV.xs (OV.fv (List.headD (Prod.fst r3) (OV.flat FV.gone)))) []] ++ (OV.cells (List.headD (Prod.fst r4) (OV.flat FV.gone)))) + List.length [FV.own none (FV.xs (OV.fv (List.headD (Prod.snd r7) (OV.flat FV.gone)))) (FV.sp (OV.fv (List.headD (Prod.snd r7) (OV.flat FV.gone))))]) 9223372036854775807) <|
  callB (rec 15 [OV.cont .nest (([FV.own none (FV.xs (OV.fv (List.headD (Prod.fst r3) (OV.flat FV.gone)))) []] ++ (OV.cells (List.headD (Prod.fst r4) (OV.flat FV.gone)))) ++ [FV.own none (FV.xs (OV.fv (List.headD (Prod.snd r7) (OV.flat FV.gone)))) (FV.sp (OV.fv (List.headD (Prod.snd r7) (OV.flat FV.gone))))])]) fun r9 => needB (okOs Go.Proofs.Try.prog [4] [] (Prod.fst r9)) <|
  ifB (PV.toB (FV.pv (OV.fv (List.headD (Prod.fst r1) (OV.flat FV.gone)))))
  (ifB (PV.toB (FV.pv (OV.fv (List.headD (Prod.fst r7) (OV.flat FV.gone)))))
  (ifB (PV.toB (FV.pv (OV.fv (List.headD (Prod.fst r8) (OV.flat FV.gone)))))
  (ifB (PV.toB (FV.pv (OV.fv (List.headD (Prod.fst r9) (OV.flat FV.gone)))))
  (ifB (PV.toI (FV.pv (OV.fv (List.headD (List.tail (Prod.fst r4)) (OV.flat FV.gone)))) == PV.toI (FV.pv (OV.fv (List.headD (List.tail (Prod.fst r6)) (OV.flat FV.gone)))))
  (ifB (PV.toI (FV.pv (OV.fv (List.headD (List.tail (Prod.fst r3)) (OV.flat FV.gone)))) == PV.toI (FV.pv (OV.fv (List.headD (List.tail (Prod.fst r5)) (OV.flat FV.gone)))))
  (some ([OV.flat (FV.val (PV.bool (PV.toI (FV.pv (OV.fv (List.headD (List.tail (List.tail (Prod.fst r4))) (OV.flat FV.gone)))) == PV.toI (FV.pv (OV.fv (List.headD (List.tail (List.tail (Prod.fst r6))) (OV.flat FV.gone)))))))], []))
  (some ([OV.flat (FV.val (PV.bool false))], [])))
  (some ([OV.flat (FV.val (PV.bool false))], [])))
  (some ([OV.flat (FV.val (PV.bool false))], [])))
  (some ([OV.flat (FV.val (PV.bool false))], [])))
  (some ([OV.flat (FV.val (PV.bool false))], [])))
  (some ([OV.flat (FV.val (PV.bool false))], [])))
  (needB (Nat.ble ((List.length [FV.own none (FV.xs (OV.fv (List.headD (Prod.fst r3) (OV.flat FV.gone)))) []] + List.length (OV.cells (List.headD (Prod.fst r4) (OV.flat FV.gone)))) * 24) 140737488355328) <|
  needB (Nat.ble (List.length [FV.own none (FV.xs (OV.fv (List.headD (Prod.fst r3) (OV.flat FV.gone)))) []] + List.length (OV.cells (List.headD (Prod.fst r4) (OV.flat FV.gone)))) 9223372036854775807) <|
  needB (Nat.ble ((List.length ([FV.own none (FV.xs (OV.fv (List.headD (Prod.fst r3) (OV.flat FV.gone)))) []] ++ (OV.cells (List.headD (Prod.fst r4) (OV.flat FV.gone)))) + List.length [FV.own none (FV.xs (OV.fv (List.headD (Prod.snd r7) (OV.flat FV.gone)))) (FV.sp (OV.fv (List.headD (Prod.snd r7) (OV.flat FV.gone))))]) * 24) 140737488355328) <|
  needB (Nat.ble (List.length ([FV.own none (FV.xs (OV.fv (List.headD (Prod.fst r3) (OV.flat FV.gone)))) []] ++ (OV.cells (List.headD (Prod.fst r4) (OV.flat FV.gone)))) + List.length [FV.own none (FV.xs (OV.fv (List.headD (Prod.snd r7) (OV.flat FV.gone)))) (FV.sp (OV.fv (List.headD (Prod.snd r7) (OV.flat FV.gone))))]) 9223372036854775807) <|
  callB (rec 15 [OV.cont .nest (([FV.own none (FV.xs (OV.fv (List.headD (Prod.fst r3) (OV.flat FV.gone)))) []] ++ (OV.cells (List.headD (Prod.fst r4) (OV.flat FV.gone)))) ++ [FV.own none (FV.xs (OV.fv (List.headD (Prod.snd r7) (OV.flat FV.gone)))) (FV.sp (OV.fv (List.headD (Prod.snd r7) (OV.flat FV.gone))))])]) fun r10 => needB (okOs Go.Proofs.Try.prog [4] [] (Prod.fst r10)) <|
  ifB (PV.toB (FV.pv (OV.fv (List.headD (Prod.fst r1) (OV.flat FV.gone)))))
  (ifB (PV.toB (FV.pv (OV.fv (List.headD (Prod.fst r7) (OV.flat FV.gone)))))
  (some ([OV.flat (FV.val (PV.bool false))], []))
  (some ([OV.flat (FV.val (PV.bool false))], [])))
  (some ([OV.flat (FV.val (PV.bool false))], [])))

theorem f4_vestrylaw01_PlainRows_eq (rec : Rec) (n : Nat) (a0 : List PV) (a1 : List PV) : callBody C rec n 4 [OV.flat (FV.val (PV.sl none a0)), OV.flat (FV.val (PV.sl none a1))] = f4_vestrylaw01_PlainRows rec n a0 a1 := by kernel_rfl

noncomputable def f8_vestrylaw01_small (rec : Rec) (n : Nat)  : Option (List OV × List OV) :=
  needB (Nat.blt 0 (List.length [PV.int .u8 (97 : Int)])) <|
  callB (rec 16 [OV.flat (FV.val (PV.sl none [PV.sl none [PV.int .u8 (97 : Int)], PV.sl none []]))]) fun r1 => needB (okOs Go.Proofs.Try.prog [22, 25] [.o, .v] (Prod.fst r1)) <|
  needB (Nat.ble ((List.length ([] : List PV) + List.length (FV.xs (OV.fv (List.headD (Prod.fst r1) (OV.flat FV.gone))))) * 1) 140737488355328) <|
  needB (Nat.ble (List.length ([] : List PV) + List.length (FV.xs (OV.fv (List.headD (Prod.fst r1) (OV.flat FV.gone))))) 9223372036854775807) <|
  needB (Nat.ble ((List.length ([] ++ (FV.xs (OV.fv (List.headD (Prod.fst r1) (OV.flat FV.gone))))) + List.length [PV.int .u8 (9 : Int)]) * 1) 140737488355328) <|
  needB (Nat.ble (List.length ([] ++ (FV.xs (OV.fv (List.headD (Prod.fst r1) (OV.flat FV.gone))))) + List.length [PV.int .u8 (9 : Int)]) 9223372036854775807) <|
  callB (rec 17 [OV.flat (FV.val (PV.sl none (([] ++ (FV.xs (OV.fv (List.headD (Prod.fst r1) (OV.flat FV.gone))))) ++ [PV.int .u8 (9 : Int)])))]) fun r2 => needB (okOs Go.Proofs.Try.prog [32, 3, 25] [.n, .v, .v] (Prod.fst r2)) <|
  ifB (PV.toI (FV.pv (OV.fv (List.headD (List.tail (Prod.fst r1)) (OV.flat FV.gone)))) == (0 : Int))
  (needB (List.all (FV.xs (OV.fv (List.headD (Prod.fst r1) (OV.flat FV.gone)))) isByte) <|
  ifB ((List.map u8Of (FV.xs (OV.fv (List.headD (Prod.fst r1) (OV.flat FV.gone))))) == ([0, 0, 0, 2, 0, 0, 0, 1, 97, 0, 0, 0, 0] : List UInt8))
  (ifB (PV.toI (FV.pv (OV.fv (List.headD (List.tail (List.tail (Prod.fst r2))) (OV.flat FV.gone)))) == (0 : Int))
  (ifB (PV.toI (FV.pv (OV.fv (List.headD (List.tail (Prod.fst r2)) (OV.flat FV.gone)))) == (13 : Int))
  (ifB (((List.length (List.map FV.frz (OV.cells (List.headD (Prod.fst r2) (OV.flat FV.gone)))) : Nat) : Int) == (2 : Int))
  (callB (rec 22 [OV.flat (FV.val (PV.int .i64 (258 : Int)))]) fun r3 => needB (okOs Go.Proofs.Try.prog [22] [.o] (Prod.fst r3)) <|
  needB (List.all (FV.xs (OV.fv (List.headD (Prod.fst r3) (OV.flat FV.gone)))) isByte) <|
  some ([OV.flat (FV.val (PV.bool ((List.map u8Of (FV.xs (OV.fv (List.headD (Prod.fst r3) (OV.flat FV.gone))))) == ([0, 0, 0, 0, 0, 0, 1, 2] : List UInt8))))], []))
  (some ([OV.flat (FV.val (PV.bool false))], [])))
  (some ([OV.flat (FV.val (PV.bool false))], [])))
  (some ([OV.flat (FV.val (PV.bool false))], [])))
  (some ([OV.flat (FV.val (PV.bool false))], [])))
  (some ([OV.flat (FV.val (PV.bool false))], []))

theorem f8_vestrylaw01_small_eq (rec : Rec) (n : Nat)  : callBody C rec n 8 [] = f8_vestrylaw01_small rec n  := by kernel_rfl

noncomputable def f10_plain_Blob (rec : Rec) (n : Nat) (a0 : List PV) : Option (List OV × List OV) :=
  ifB (decide (((List.length a0 : Nat) : Int) > (65536 : Int)))
  (some ([OV.flat (FV.own none [] []), OV.flat (FV.val (PV.int .i64 (2 : Int)))], []))
  (callB (rec 29 [OV.flat (FV.own none [] []), OV.flat (FV.val (PV.int .i64 ((List.length a0 : Nat) : Int))), OV.flat (FV.val (PV.int .i64 (4 : Int)))]) fun r1 => needB (okOs Go.Proofs.Try.prog [22] [.o] (Prod.fst r1)) <|
  needB (Nat.ble ((List.length (FV.xs (OV.fv (List.headD (Prod.fst r1) (OV.flat FV.gone)))) + List.length a0) * 1) 140737488355328) <|
  needB (Nat.ble (List.length (FV.xs (OV.fv (List.headD (Prod.fst r1) (OV.flat FV.gone)))) + List.length a0) 9223372036854775807) <|
  some ([OV.flat (FV.own none ((FV.xs (OV.fv (List.headD (Prod.fst r1) (OV.flat FV.gone)))) ++ a0) []), OV.flat (FV.val (PV.int .i64 (0 : Int)))], []))

theorem f10_plain_Blob_eq (rec : Rec) (n : Nat) (a0 : List PV) : callBody C rec n 10 [OV.flat (FV.val (PV.sl none a0))] = f10_plain_Blob rec n a0 := by kernel_rfl

noncomputable def f11_plain_TakeBlob (rec : Rec) (n : Nat) (a0 : List PV) : Option (List OV × List OV) :=
  callB (rec 30 [OV.flat (FV.val (PV.sl none a0)), OV.flat (FV.val (PV.int .i64 (65536 : Int)))]) fun r1 => needB (okOs Go.Proofs.Try.prog [3, 25] [] (Prod.fst r1)) <|
  ifB (PV.toI (FV.pv (OV.fv (List.headD (List.tail (Prod.fst r1)) (OV.flat FV.gone)))) != (0 : Int))
  (some ([OV.flat (FV.own none [] []), OV.flat (FV.val (PV.int .i64 (0 : Int))), OV.flat (FV.val (PV.int .i64 (PV.toI (FV.pv (OV.fv (List.headD (List.tail (Prod.fst r1)) (OV.flat FV.gone)))))))], []))
  (ifB (decide (IntKind.wrap .i64 (((List.length a0 : Nat) : Int) - (4 : Int)) < PV.toI (FV.pv (OV.fv (List.headD (Prod.fst r1) (OV.flat FV.gone))))))
  (some ([OV.flat (FV.own none [] []), OV.flat (FV.val (PV.int .i64 (0 : Int))), OV.flat (FV.val (PV.int .i64 (3 : Int)))], []))
  (needB (decide ((4 : Int) ≤ IntKind.wrap .i64 ((4 : Int) + PV.toI (FV.pv (OV.fv (List.headD (Prod.fst r1) (OV.flat FV.gone))))))) <|
  needB (decide (IntKind.wrap .i64 ((4 : Int) + PV.toI (FV.pv (OV.fv (List.headD (Prod.fst r1) (OV.flat FV.gone))))) ≤ ((List.length a0 : Nat) : Int))) <|
  callB (rec 31 [OV.flat (FV.val (PV.sl none (List.drop 4 (List.take (Int.toNat (IntKind.wrap .i64 ((4 : Int) + PV.toI (FV.pv (OV.fv (List.headD (Prod.fst r1) (OV.flat FV.gone))))))) a0))))]) fun r2 => needB (okOs Go.Proofs.Try.prog [22] [.o] (Prod.fst r2)) <|
  some ([OV.flat (FV.own none (FV.xs (OV.fv (List.headD (Prod.fst r2) (OV.flat FV.gone)))) []), OV.flat (FV.val (PV.int .i64 (IntKind.wrap .i64 ((4 : Int) + PV.toI (FV.pv (OV.fv (List.headD (Prod.fst r1) (OV.flat FV.gone)))))))), OV.flat (FV.val (PV.int .i64 (0 : Int)))], [])))

theorem f11_plain_TakeBlob_eq (rec : Rec) (n : Nat) (a0 : List PV) : callBody C rec n 11 [OV.flat (FV.val (PV.sl none a0))] = f11_plain_TakeBlob rec n a0 := by kernel_rfl

noncomputable def f12_vestryref01_Blob (rec : Rec) (n : Nat) (a0 : List PV) : Option (List OV × List OV) :=
  ifB (decide (((List.length a0 : Nat) : Int) > (65536 : Int)))
  (some ([OV.flat (FV.own none [] []), OV.flat (FV.val (PV.int .i64 (2 : Int)))], []))
  (callB (rec 32 [OV.flat (FV.val (PV.int .i64 ((List.length a0 : Nat) : Int)))]) fun r1 => needB (okOs Go.Proofs.Try.prog [22] [.o] (Prod.fst r1)) <|
  needB (Nat.ble ((List.length (FV.xs (OV.fv (List.headD (Prod.fst r1) (OV.flat FV.gone)))) + List.length a0) * 1) 140737488355328) <|
  needB (Nat.ble (List.length (FV.xs (OV.fv (List.headD (Prod.fst r1) (OV.flat FV.gone)))) + List.length a0) 9223372036854775807) <|
  some ([OV.flat (FV.own none ((FV.xs (OV.fv (List.headD (Prod.fst r1) (OV.flat FV.gone)))) ++ a0) []), OV.flat (FV.val (PV.int .i64 (0 : Int)))], []))

theorem f12_vestryref01_Blob_eq (rec : Rec) (n : Nat) (a0 : List PV) : callBody C rec n 12 [OV.flat (FV.val (PV.sl none a0))] = f12_vestryref01_Blob rec n a0 := by kernel_rfl

noncomputable def f13_vestryref01_TakeBlob (rec : Rec) (n : Nat) (a0 : List PV) : Option (List OV × List OV) :=
  ifB (decide (((List.length a0 : Nat) : Int) < (4 : Int)))
  (some ([OV.flat (FV.own none [] []), OV.flat (FV.val (PV.int .i64 (0 : Int))), OV.flat (FV.val (PV.int .i64 (3 : Int)))], []))
  (callB (rec 33 [OV.flat (FV.val (PV.sl none a0))]) fun r1 => needB (okOs Go.Proofs.Try.prog [3] [] (Prod.fst r1)) <|
  ifB (decide (PV.toI (FV.pv (OV.fv (List.headD (Prod.fst r1) (OV.flat FV.gone)))) > (65536 : Int)))
  (some ([OV.flat (FV.own none [] []), OV.flat (FV.val (PV.int .i64 (0 : Int))), OV.flat (FV.val (PV.int .i64 (2 : Int)))], []))
  (ifB (decide (IntKind.wrap .i64 (((List.length a0 : Nat) : Int) - (4 : Int)) < PV.toI (FV.pv (OV.fv (List.headD (Prod.fst r1) (OV.flat FV.gone))))))
  (some ([OV.flat (FV.own none [] []), OV.flat (FV.val (PV.int .i64 (0 : Int))), OV.flat (FV.val (PV.int .i64 (3 : Int)))], []))
  (needB (decide ((4 : Int) ≤ IntKind.wrap .i64 ((4 : Int) + PV.toI (FV.pv (OV.fv (List.headD (Prod.fst r1) (OV.flat FV.gone))))))) <|
  needB (decide (IntKind.wrap .i64 ((4 : Int) + PV.toI (FV.pv (OV.fv (List.headD (Prod.fst r1) (OV.flat FV.gone))))) ≤ ((List.length a0 : Nat) : Int))) <|
  needB (Nat.ble ((List.length ([] : List PV) + List.length (List.drop 4 (List.take (Int.toNat (IntKind.wrap .i64 ((4 : Int) + PV.toI (FV.pv (OV.fv (List.headD (Prod.fst r1) (OV.flat FV.gone))))))) a0))) * 1) 140737488355328) <|
  needB (Nat.ble (List.length ([] : List PV) + List.length (List.drop 4 (List.take (Int.toNat (IntKind.wrap .i64 ((4 : Int) + PV.toI (FV.pv (OV.fv (List.headD (Prod.fst r1) (OV.flat FV.gone))))))) a0))) 9223372036854775807) <|
  some ([OV.flat (FV.own none ([] ++ (List.drop 4 (List.take (Int.toNat (IntKind.wrap .i64 ((4 : Int) + PV.toI (FV.pv (OV.fv (List.headD (Prod.fst r1) (OV.flat FV.gone))))))) a0))) []), OV.flat (FV.val (PV.int .i64 (IntKind.wrap .i64 ((4 : Int) + PV.toI (FV.pv (OV.fv (List.headD (Prod.fst r1) (OV.flat FV.gone)))))))), OV.flat (FV.val (PV.int .i64 (0 : Int)))], []))))

theorem f13_vestryref01_TakeBlob_eq (rec : Rec) (n : Nat) (a0 : List PV) : callBody C rec n 13 [OV.flat (FV.val (PV.sl none a0))] = f13_vestryref01_TakeBlob rec n a0 := by kernel_rfl

noncomputable def f16_plain_Row.l0.step (rec : Rec) (n : Nat) (self_l0 : List PV → List PV → Int → Int → Option (List OV × List OV)) (x0 : List PV) (x1 : List PV) (x2 : Int) (x3 : Int) : Option (List OV × List OV) :=
  ifB (decide (x3 < x2))
  (needB (decide ((0 : Int) ≤ x3)) <|
  needB (decide (x3 < ((List.length x1 : Nat) : Int))) <|
  needB (hasT Go.Proofs.Try.prog 22 (nthP x1 (Int.toNat x3))) <|
  callB (rec 10 [OV.flat (FV.val (PV.sl none (PV.toL (nthP x1 (Int.toNat x3)))))]) fun r2 => needB (okOs Go.Proofs.Try.prog [22, 25] [.o, .v] (Prod.fst r2)) <|
  ifB (PV.toI (FV.pv (OV.fv (List.headD (List.tail (Prod.fst r2)) (OV.flat FV.gone)))) != (0 : Int))
  (some ([OV.flat (FV.own none [] []), OV.flat (FV.val (PV.int .i64 (PV.toI (FV.pv (OV.fv (List.headD (List.tail (Prod.fst r2)) (OV.flat FV.gone)))))))], []))
  (needB (Nat.ble ((List.length x0 + List.length (FV.xs (OV.fv (List.headD (Prod.fst r2) (OV.flat FV.gone))))) * 1) 140737488355328) <|
  needB (Nat.ble (List.length x0 + List.length (FV.xs (OV.fv (List.headD (Prod.fst r2) (OV.flat FV.gone))))) 9223372036854775807) <|
  self_l0 (x0 ++ (FV.xs (OV.fv (List.headD (Prod.fst r2) (OV.flat FV.gone))))) x1 x2 (IntKind.wrap .i64 (x3 + (1 : Int)))))
  (some ([OV.flat (FV.own none x0 []), OV.flat (FV.val (PV.int .i64 (0 : Int)))], []))

noncomputable def f16_plain_Row.l0 (rec : Rec) (n : Nat) : Nat → List PV → List PV → Int → Int → Option (List OV × List OV)
  | 0, _, _, _, _ => none
  | m + 1, x0, x1, x2, x3 => f16_plain_Row.l0.step rec n (f16_plain_Row.l0 rec n m) x0 x1 x2 x3

theorem f16_plain_Row.l0_eq (rec : Rec) (n : Nat) : ∀ (m : Nat) (x0 : List PV) (x1 : List PV) (x2 : Int) (x3 : Int), loopAt C rec n 16 [1, 1, 1, 0, 1, 0] [] m [(4, SV.home (OV.flat (FV.own none x0 []))), (15, SV.home (OV.flat (FV.val (PV.sl none x1)))), (16, SV.home (OV.flat (FV.val (PV.int .i64 x2)))), (17, SV.home (OV.flat (FV.val (PV.int .i64 x3))))] = f16_plain_Row.l0 rec n m x0 x1 x2 x3
  | 0, x0, x1, x2, x3 => by kernel_rfl
  | m + 1, x0, x1, x2, x3 => by
    have ih : (fun x0 x1 x2 x3 => loopAt C rec n 16 [1, 1, 1, 0, 1, 0] [] m [(4, SV.home (OV.flat (FV.own none x0 []))), (15, SV.home (OV.flat (FV.val (PV.sl none x1)))), (16, SV.home (OV.flat (FV.val (PV.int .i64 x2)))), (17, SV.home (OV.flat (FV.val (PV.int .i64 x3))))]) = f16_plain_Row.l0 rec n m := funext fun x0 => funext fun x1 => funext fun x2 => funext fun x3 => f16_plain_Row.l0_eq rec n m x0 x1 x2 x3
    exact (show loopAt C rec n 16 [1, 1, 1, 0, 1, 0] [] (m + 1) [(4, SV.home (OV.flat (FV.own none x0 []))), (15, SV.home (OV.flat (FV.val (PV.sl none x1)))), (16, SV.home (OV.flat (FV.val (PV.int .i64 x2)))), (17, SV.home (OV.flat (FV.val (PV.int .i64 x3))))] = f16_plain_Row.l0.step rec n (fun x0 x1 x2 x3 => loopAt C rec n 16 [1, 1, 1, 0, 1, 0] [] m [(4, SV.home (OV.flat (FV.own none x0 []))), (15, SV.home (OV.flat (FV.val (PV.sl none x1)))), (16, SV.home (OV.flat (FV.val (PV.int .i64 x2)))), (17, SV.home (OV.flat (FV.val (PV.int .i64 x3))))]) x0 x1 x2 x3 from by kernel_rfl).trans (by rw [ih]; rfl)

noncomputable def f16_plain_Row.pre (rec : Rec) (n : Nat) (l0 : List PV → List PV → Int → Int → Option (List OV × List OV)) (a0 : List PV) : Option (List OV × List OV) :=
  ifB (decide (((List.length a0 : Nat) : Int) > (4096 : Int)))
  (some ([OV.flat (FV.own none [] []), OV.flat (FV.val (PV.int .i64 (2 : Int)))], []))
  (callB (rec 29 [OV.flat (FV.own none [] []), OV.flat (FV.val (PV.int .i64 ((List.length a0 : Nat) : Int))), OV.flat (FV.val (PV.int .i64 (4 : Int)))]) fun r1 => needB (okOs Go.Proofs.Try.prog [22] [.o] (Prod.fst r1)) <|
  l0 (FV.xs (OV.fv (List.headD (Prod.fst r1) (OV.flat FV.gone)))) a0 ((List.length a0 : Nat) : Int) (0 : Int))

noncomputable def f16_plain_Row (rec : Rec) (n : Nat) (a0 : List PV) : Option (List OV × List OV) := f16_plain_Row.pre rec n (f16_plain_Row.l0 rec n n) a0

theorem f16_plain_Row_eq (rec : Rec) (n : Nat) (a0 : List PV) : callBody C rec n 16 [OV.flat (FV.val (PV.sl none a0))] = f16_plain_Row rec n a0 := by
  have i0 : (fun x0 x1 x2 x3 => loopAt C rec n 16 [1, 1, 1, 0, 1, 0] [] n [(4, SV.home (OV.flat (FV.own none x0 []))), (15, SV.home (OV.flat (FV.val (PV.sl none x1)))), (16, SV.home (OV.flat (FV.val (PV.int .i64 x2)))), (17, SV.home (OV.flat (FV.val (PV.int .i64 x3))))]) = f16_plain_Row.l0 rec n n := funext fun x0 => funext fun x1 => funext fun x2 => funext fun x3 => f16_plain_Row.l0_eq rec n n x0 x1 x2 x3
  exact (show callBody C rec n 16 [OV.flat (FV.val (PV.sl none a0))] = f16_plain_Row.pre rec n (fun x0 x1 x2 x3 => loopAt C rec n 16 [1, 1, 1, 0, 1, 0] [] n [(4, SV.home (OV.flat (FV.own none x0 []))), (15, SV.home (OV.flat (FV.val (PV.sl none x1)))), (16, SV.home (OV.flat (FV.val (PV.int .i64 x2)))), (17, SV.home (OV.flat (FV.val (PV.int .i64 x3))))]) a0 from by kernel_rfl).trans (by rw [i0]; rfl)

noncomputable def f17_plain_TakeRow.l0.step (rec : Rec) (n : Nat) (self_l0 : List PV → Int → List FV → Int → Int → Option (List OV × List OV)) (x0 : List PV) (x1 : Int) (x2 : List FV) (x3 : Int) (x4 : Int) : Option (List OV × List OV) :=
  ifB (decide (x4 < x3))
  (needB (decide ((0 : Int) ≤ x1)) <|
  needB (decide (x1 ≤ ((List.length x0 : Nat) : Int))) <|
  callB (rec 11 [OV.flat (FV.val (PV.sl none (List.drop (Int.toNat x1) x0)))]) fun r2 => needB (okOs Go.Proofs.Try.prog [22, 3, 25] [.o, .v, .v] (Prod.fst r2)) <|
  ifB (PV.toI (FV.pv (OV.fv (List.headD (List.tail (List.tail (Prod.fst r2))) (OV.flat FV.gone)))) != (0 : Int))
  (some ([OV.cont .nest [], OV.flat (FV.val (PV.int .i64 (0 : Int))), OV.flat (FV.val (PV.int .i64 (PV.toI (FV.pv (OV.fv (List.headD (List.tail (List.tail (Prod.fst r2))) (OV.flat FV.gone)))))))], []))
  (needB (Nat.ble ((List.length x2 + List.length [FV.own none (FV.xs (OV.fv (List.headD (Prod.fst r2) (OV.flat FV.gone)))) []]) * 24) 140737488355328) <|
  needB (Nat.ble (List.length x2 + List.length [FV.own none (FV.xs (OV.fv (List.headD (Prod.fst r2) (OV.flat FV.gone)))) []]) 9223372036854775807) <|
  self_l0 x0 (IntKind.wrap .i64 (x1 + PV.toI (FV.pv (OV.fv (List.headD (List.tail (Prod.fst r2)) (OV.flat FV.gone)))))) (x2 ++ [FV.own none (FV.xs (OV.fv (List.headD (Prod.fst r2) (OV.flat FV.gone)))) []]) x3 (IntKind.wrap .i64 (x4 + (1 : Int)))))
  (some ([OV.cont .nest x2, OV.flat (FV.val (PV.int .i64 x1)), OV.flat (FV.val (PV.int .i64 (0 : Int)))], []))

noncomputable def f17_plain_TakeRow.l0 (rec : Rec) (n : Nat) : Nat → List PV → Int → List FV → Int → Int → Option (List OV × List OV)
  | 0, _, _, _, _, _ => none
  | m + 1, x0, x1, x2, x3, x4 => f17_plain_TakeRow.l0.step rec n (f17_plain_TakeRow.l0 rec n m) x0 x1 x2 x3 x4

theorem f17_plain_TakeRow.l0_eq (rec : Rec) (n : Nat) : ∀ (m : Nat) (x0 : List PV) (x1 : Int) (x2 : List FV) (x3 : Int) (x4 : Int), loopAt C rec n 17 [1, 1, 1, 1, 1, 0, 1, 0] [] m [(0, SV.home (OV.flat (FV.val (PV.sl none x0)))), (7, SV.home (OV.flat (FV.val (PV.int .i64 x1)))), (8, SV.home (OV.cont .nest x2)), (20, SV.home (OV.flat (FV.val (PV.int .i64 x3)))), (21, SV.home (OV.flat (FV.val (PV.int .i64 x4))))] = f17_plain_TakeRow.l0 rec n m x0 x1 x2 x3 x4
  | 0, x0, x1, x2, x3, x4 => by kernel_rfl
  | m + 1, x0, x1, x2, x3, x4 => by
    have ih : (fun x0 x1 x2 x3 x4 => loopAt C rec n 17 [1, 1, 1, 1, 1, 0, 1, 0] [] m [(0, SV.home (OV.flat (FV.val (PV.sl none x0)))), (7, SV.home (OV.flat (FV.val (PV.int .i64 x1)))), (8, SV.home (OV.cont .nest x2)), (20, SV.home (OV.flat (FV.val (PV.int .i64 x3)))), (21, SV.home (OV.flat (FV.val (PV.int .i64 x4))))]) = f17_plain_TakeRow.l0 rec n m := funext fun x0 => funext fun x1 => funext fun x2 => funext fun x3 => funext fun x4 => f17_plain_TakeRow.l0_eq rec n m x0 x1 x2 x3 x4
    exact (show loopAt C rec n 17 [1, 1, 1, 1, 1, 0, 1, 0] [] (m + 1) [(0, SV.home (OV.flat (FV.val (PV.sl none x0)))), (7, SV.home (OV.flat (FV.val (PV.int .i64 x1)))), (8, SV.home (OV.cont .nest x2)), (20, SV.home (OV.flat (FV.val (PV.int .i64 x3)))), (21, SV.home (OV.flat (FV.val (PV.int .i64 x4))))] = f17_plain_TakeRow.l0.step rec n (fun x0 x1 x2 x3 x4 => loopAt C rec n 17 [1, 1, 1, 1, 1, 0, 1, 0] [] m [(0, SV.home (OV.flat (FV.val (PV.sl none x0)))), (7, SV.home (OV.flat (FV.val (PV.int .i64 x1)))), (8, SV.home (OV.cont .nest x2)), (20, SV.home (OV.flat (FV.val (PV.int .i64 x3)))), (21, SV.home (OV.flat (FV.val (PV.int .i64 x4))))]) x0 x1 x2 x3 x4 from by kernel_rfl).trans (by rw [ih]; rfl)

noncomputable def f17_plain_TakeRow.pre (rec : Rec) (n : Nat) (l0 : List PV → Int → List FV → Int → Int → Option (List OV × List OV)) (a0 : List PV) : Option (List OV × List OV) :=
  callB (rec 30 [OV.flat (FV.val (PV.sl none a0)), OV.flat (FV.val (PV.int .i64 (4096 : Int)))]) fun r1 => needB (okOs Go.Proofs.Try.prog [3, 25] [] (Prod.fst r1)) <|
  ifB (PV.toI (FV.pv (OV.fv (List.headD (List.tail (Prod.fst r1)) (OV.flat FV.gone)))) != (0 : Int))
  (some ([OV.cont .nest [], OV.flat (FV.val (PV.int .i64 (0 : Int))), OV.flat (FV.val (PV.int .i64 (PV.toI (FV.pv (OV.fv (List.headD (List.tail (Prod.fst r1)) (OV.flat FV.gone)))))))], []))
  (l0 a0 (4 : Int) [] (PV.toI (FV.pv (OV.fv (List.headD (Prod.fst r1) (OV.flat FV.gone))))) (0 : Int))

noncomputable def f17_plain_TakeRow (rec : Rec) (n : Nat) (a0 : List PV) : Option (List OV × List OV) := f17_plain_TakeRow.pre rec n (f17_plain_TakeRow.l0 rec n n) a0

theorem f17_plain_TakeRow_eq (rec : Rec) (n : Nat) (a0 : List PV) : callBody C rec n 17 [OV.flat (FV.val (PV.sl none a0))] = f17_plain_TakeRow rec n a0 := by
  have i0 : (fun x0 x1 x2 x3 x4 => loopAt C rec n 17 [1, 1, 1, 1, 1, 0, 1, 0] [] n [(0, SV.home (OV.flat (FV.val (PV.sl none x0)))), (7, SV.home (OV.flat (FV.val (PV.int .i64 x1)))), (8, SV.home (OV.cont .nest x2)), (20, SV.home (OV.flat (FV.val (PV.int .i64 x3)))), (21, SV.home (OV.flat (FV.val (PV.int .i64 x4))))]) = f17_plain_TakeRow.l0 rec n n := funext fun x0 => funext fun x1 => funext fun x2 => funext fun x3 => funext fun x4 => f17_plain_TakeRow.l0_eq rec n n x0 x1 x2 x3 x4
  exact (show callBody C rec n 17 [OV.flat (FV.val (PV.sl none a0))] = f17_plain_TakeRow.pre rec n (fun x0 x1 x2 x3 x4 => loopAt C rec n 17 [1, 1, 1, 1, 1, 0, 1, 0] [] n [(0, SV.home (OV.flat (FV.val (PV.sl none x0)))), (7, SV.home (OV.flat (FV.val (PV.int .i64 x1)))), (8, SV.home (OV.cont .nest x2)), (20, SV.home (OV.flat (FV.val (PV.int .i64 x3)))), (21, SV.home (OV.flat (FV.val (PV.int .i64 x4))))]) a0 from by kernel_rfl).trans (by rw [i0]; rfl)

noncomputable def f18_vestryref01_Row.l0.step (rec : Rec) (n : Nat) (self_l0 : List PV → List PV → Int → Option (List OV × List OV)) (x0 : List PV) (x1 : List PV) (x2 : Int) : Option (List OV × List OV) :=
  ifB (decide (x2 < ((List.length x0 : Nat) : Int)))
  (needB (decide ((0 : Int) ≤ x2)) <|
  needB (decide (x2 < ((List.length x0 : Nat) : Int))) <|
  needB (hasT Go.Proofs.Try.prog 22 (nthP x0 (Int.toNat x2))) <|
  callB (rec 12 [OV.flat (FV.val (PV.sl none (PV.toL (nthP x0 (Int.toNat x2)))))]) fun r2 => needB (okOs Go.Proofs.Try.prog [22, 25] [.o, .v] (Prod.fst r2)) <|
  ifB (PV.toI (FV.pv (OV.fv (List.headD (List.tail (Prod.fst r2)) (OV.flat FV.gone)))) != (0 : Int))
  (some ([OV.flat (FV.own none [] []), OV.flat (FV.val (PV.int .i64 (PV.toI (FV.pv (OV.fv (List.headD (List.tail (Prod.fst r2)) (OV.flat FV.gone)))))))], []))
  (needB (Nat.ble ((List.length x1 + List.length (FV.xs (OV.fv (List.headD (Prod.fst r2) (OV.flat FV.gone))))) * 1) 140737488355328) <|
  needB (Nat.ble (List.length x1 + List.length (FV.xs (OV.fv (List.headD (Prod.fst r2) (OV.flat FV.gone))))) 9223372036854775807) <|
  self_l0 x0 (x1 ++ (FV.xs (OV.fv (List.headD (Prod.fst r2) (OV.flat FV.gone))))) (IntKind.wrap .i64 (x2 + (1 : Int)))))
  (some ([OV.flat (FV.own none x1 []), OV.flat (FV.val (PV.int .i64 (0 : Int)))], []))

noncomputable def f18_vestryref01_Row.l0 (rec : Rec) (n : Nat) : Nat → List PV → List PV → Int → Option (List OV × List OV)
  | 0, _, _, _ => none
  | m + 1, x0, x1, x2 => f18_vestryref01_Row.l0.step rec n (f18_vestryref01_Row.l0 rec n m) x0 x1 x2

theorem f18_vestryref01_Row.l0_eq (rec : Rec) (n : Nat) : ∀ (m : Nat) (x0 : List PV) (x1 : List PV) (x2 : Int), loopAt C rec n 18 [1, 1, 1, 0, 1, 0] [] m [(0, SV.home (OV.flat (FV.val (PV.sl none x0)))), (4, SV.home (OV.flat (FV.own none x1 []))), (5, SV.home (OV.flat (FV.val (PV.int .i64 x2))))] = f18_vestryref01_Row.l0 rec n m x0 x1 x2
  | 0, x0, x1, x2 => by kernel_rfl
  | m + 1, x0, x1, x2 => by
    have ih : (fun x0 x1 x2 => loopAt C rec n 18 [1, 1, 1, 0, 1, 0] [] m [(0, SV.home (OV.flat (FV.val (PV.sl none x0)))), (4, SV.home (OV.flat (FV.own none x1 []))), (5, SV.home (OV.flat (FV.val (PV.int .i64 x2))))]) = f18_vestryref01_Row.l0 rec n m := funext fun x0 => funext fun x1 => funext fun x2 => f18_vestryref01_Row.l0_eq rec n m x0 x1 x2
    exact (show loopAt C rec n 18 [1, 1, 1, 0, 1, 0] [] (m + 1) [(0, SV.home (OV.flat (FV.val (PV.sl none x0)))), (4, SV.home (OV.flat (FV.own none x1 []))), (5, SV.home (OV.flat (FV.val (PV.int .i64 x2))))] = f18_vestryref01_Row.l0.step rec n (fun x0 x1 x2 => loopAt C rec n 18 [1, 1, 1, 0, 1, 0] [] m [(0, SV.home (OV.flat (FV.val (PV.sl none x0)))), (4, SV.home (OV.flat (FV.own none x1 []))), (5, SV.home (OV.flat (FV.val (PV.int .i64 x2))))]) x0 x1 x2 from by kernel_rfl).trans (by rw [ih]; rfl)

noncomputable def f18_vestryref01_Row.pre (rec : Rec) (n : Nat) (l0 : List PV → List PV → Int → Option (List OV × List OV)) (a0 : List PV) : Option (List OV × List OV) :=
  ifB (decide (((List.length a0 : Nat) : Int) > (4096 : Int)))
  (some ([OV.flat (FV.own none [] []), OV.flat (FV.val (PV.int .i64 (2 : Int)))], []))
  (callB (rec 32 [OV.flat (FV.val (PV.int .i64 ((List.length a0 : Nat) : Int)))]) fun r1 => needB (okOs Go.Proofs.Try.prog [22] [.o] (Prod.fst r1)) <|
  l0 a0 (FV.xs (OV.fv (List.headD (Prod.fst r1) (OV.flat FV.gone)))) (0 : Int))

noncomputable def f18_vestryref01_Row (rec : Rec) (n : Nat) (a0 : List PV) : Option (List OV × List OV) := f18_vestryref01_Row.pre rec n (f18_vestryref01_Row.l0 rec n n) a0

theorem f18_vestryref01_Row_eq (rec : Rec) (n : Nat) (a0 : List PV) : callBody C rec n 18 [OV.flat (FV.val (PV.sl none a0))] = f18_vestryref01_Row rec n a0 := by
  have i0 : (fun x0 x1 x2 => loopAt C rec n 18 [1, 1, 1, 0, 1, 0] [] n [(0, SV.home (OV.flat (FV.val (PV.sl none x0)))), (4, SV.home (OV.flat (FV.own none x1 []))), (5, SV.home (OV.flat (FV.val (PV.int .i64 x2))))]) = f18_vestryref01_Row.l0 rec n n := funext fun x0 => funext fun x1 => funext fun x2 => f18_vestryref01_Row.l0_eq rec n n x0 x1 x2
  exact (show callBody C rec n 18 [OV.flat (FV.val (PV.sl none a0))] = f18_vestryref01_Row.pre rec n (fun x0 x1 x2 => loopAt C rec n 18 [1, 1, 1, 0, 1, 0] [] n [(0, SV.home (OV.flat (FV.val (PV.sl none x0)))), (4, SV.home (OV.flat (FV.own none x1 []))), (5, SV.home (OV.flat (FV.val (PV.int .i64 x2))))]) a0 from by kernel_rfl).trans (by rw [i0]; rfl)

noncomputable def f19_vestryref01_TakeRow.l0.step (rec : Rec) (n : Nat) (self_l0 : List PV → Int → Int → List FV → Int → Option (List OV × List OV)) (x0 : List PV) (x1 : Int) (x2 : Int) (x3 : List FV) (x4 : Int) : Option (List OV × List OV) :=
  ifB (decide (x4 < x1))
  (needB (decide ((0 : Int) ≤ x2)) <|
  needB (decide (x2 ≤ ((List.length x0 : Nat) : Int))) <|
  callB (rec 13 [OV.flat (FV.val (PV.sl none (List.drop (Int.toNat x2) x0)))]) fun r2 => needB (okOs Go.Proofs.Try.prog [22, 3, 25] [.o, .v, .v] (Prod.fst r2)) <|
  ifB (PV.toI (FV.pv (OV.fv (List.headD (List.tail (List.tail (Prod.fst r2))) (OV.flat FV.gone)))) != (0 : Int))
  (some ([OV.cont .nest [], OV.flat (FV.val (PV.int .i64 (0 : Int))), OV.flat (FV.val (PV.int .i64 (PV.toI (FV.pv (OV.fv (List.headD (List.tail (List.tail (Prod.fst r2))) (OV.flat FV.gone)))))))], []))
  (needB (Nat.ble ((List.length x3 + List.length [FV.own none (FV.xs (OV.fv (List.headD (Prod.fst r2) (OV.flat FV.gone)))) []]) * 24) 140737488355328) <|
  needB (Nat.ble (List.length x3 + List.length [FV.own none (FV.xs (OV.fv (List.headD (Prod.fst r2) (OV.flat FV.gone)))) []]) 9223372036854775807) <|
  self_l0 x0 x1 (IntKind.wrap .i64 (x2 + PV.toI (FV.pv (OV.fv (List.headD (List.tail (Prod.fst r2)) (OV.flat FV.gone)))))) (x3 ++ [FV.own none (FV.xs (OV.fv (List.headD (Prod.fst r2) (OV.flat FV.gone)))) []]) (IntKind.wrap .i64 (x4 + (1 : Int)))))
  (some ([OV.cont .nest x3, OV.flat (FV.val (PV.int .i64 x2)), OV.flat (FV.val (PV.int .i64 (0 : Int)))], []))

noncomputable def f19_vestryref01_TakeRow.l0 (rec : Rec) (n : Nat) : Nat → List PV → Int → Int → List FV → Int → Option (List OV × List OV)
  | 0, _, _, _, _, _ => none
  | m + 1, x0, x1, x2, x3, x4 => f19_vestryref01_TakeRow.l0.step rec n (f19_vestryref01_TakeRow.l0 rec n m) x0 x1 x2 x3 x4

theorem f19_vestryref01_TakeRow.l0_eq (rec : Rec) (n : Nat) : ∀ (m : Nat) (x0 : List PV) (x1 : Int) (x2 : Int) (x3 : List FV) (x4 : Int), loopAt C rec n 19 [1, 1, 1, 1, 1, 1, 0, 1, 0] [] m [(0, SV.home (OV.flat (FV.val (PV.sl none x0)))), (5, SV.home (OV.flat (FV.val (PV.int .i64 x1)))), (6, SV.home (OV.flat (FV.val (PV.int .i64 x2)))), (7, SV.home (OV.cont .nest x3)), (8, SV.home (OV.flat (FV.val (PV.int .i64 x4))))] = f19_vestryref01_TakeRow.l0 rec n m x0 x1 x2 x3 x4
  | 0, x0, x1, x2, x3, x4 => by kernel_rfl
  | m + 1, x0, x1, x2, x3, x4 => by
    have ih : (fun x0 x1 x2 x3 x4 => loopAt C rec n 19 [1, 1, 1, 1, 1, 1, 0, 1, 0] [] m [(0, SV.home (OV.flat (FV.val (PV.sl none x0)))), (5, SV.home (OV.flat (FV.val (PV.int .i64 x1)))), (6, SV.home (OV.flat (FV.val (PV.int .i64 x2)))), (7, SV.home (OV.cont .nest x3)), (8, SV.home (OV.flat (FV.val (PV.int .i64 x4))))]) = f19_vestryref01_TakeRow.l0 rec n m := funext fun x0 => funext fun x1 => funext fun x2 => funext fun x3 => funext fun x4 => f19_vestryref01_TakeRow.l0_eq rec n m x0 x1 x2 x3 x4
    exact (show loopAt C rec n 19 [1, 1, 1, 1, 1, 1, 0, 1, 0] [] (m + 1) [(0, SV.home (OV.flat (FV.val (PV.sl none x0)))), (5, SV.home (OV.flat (FV.val (PV.int .i64 x1)))), (6, SV.home (OV.flat (FV.val (PV.int .i64 x2)))), (7, SV.home (OV.cont .nest x3)), (8, SV.home (OV.flat (FV.val (PV.int .i64 x4))))] = f19_vestryref01_TakeRow.l0.step rec n (fun x0 x1 x2 x3 x4 => loopAt C rec n 19 [1, 1, 1, 1, 1, 1, 0, 1, 0] [] m [(0, SV.home (OV.flat (FV.val (PV.sl none x0)))), (5, SV.home (OV.flat (FV.val (PV.int .i64 x1)))), (6, SV.home (OV.flat (FV.val (PV.int .i64 x2)))), (7, SV.home (OV.cont .nest x3)), (8, SV.home (OV.flat (FV.val (PV.int .i64 x4))))]) x0 x1 x2 x3 x4 from by kernel_rfl).trans (by rw [ih]; rfl)

noncomputable def f19_vestryref01_TakeRow.pre (rec : Rec) (n : Nat) (l0 : List PV → Int → Int → List FV → Int → Option (List OV × List OV)) (a0 : List PV) : Option (List OV × List OV) :=
  ifB (decide (((List.length a0 : Nat) : Int) < (4 : Int)))
  (some ([OV.cont .nest [], OV.flat (FV.val (PV.int .i64 (0 : Int))), OV.flat (FV.val (PV.int .i64 (3 : Int)))], []))
  (callB (rec 33 [OV.flat (FV.val (PV.sl none a0))]) fun r1 => needB (okOs Go.Proofs.Try.prog [3] [] (Prod.fst r1)) <|
  ifB (decide (PV.toI (FV.pv (OV.fv (List.headD (Prod.fst r1) (OV.flat FV.gone)))) > (4096 : Int)))
  (some ([OV.cont .nest [], OV.flat (FV.val (PV.int .i64 (0 : Int))), OV.flat (FV.val (PV.int .i64 (2 : Int)))], []))
  (l0 a0 (PV.toI (FV.pv (OV.fv (List.headD (Prod.fst r1) (OV.flat FV.gone))))) (4 : Int) [] (0 : Int)))

noncomputable def f19_vestryref01_TakeRow (rec : Rec) (n : Nat) (a0 : List PV) : Option (List OV × List OV) := f19_vestryref01_TakeRow.pre rec n (f19_vestryref01_TakeRow.l0 rec n n) a0

theorem f19_vestryref01_TakeRow_eq (rec : Rec) (n : Nat) (a0 : List PV) : callBody C rec n 19 [OV.flat (FV.val (PV.sl none a0))] = f19_vestryref01_TakeRow rec n a0 := by
  have i0 : (fun x0 x1 x2 x3 x4 => loopAt C rec n 19 [1, 1, 1, 1, 1, 1, 0, 1, 0] [] n [(0, SV.home (OV.flat (FV.val (PV.sl none x0)))), (5, SV.home (OV.flat (FV.val (PV.int .i64 x1)))), (6, SV.home (OV.flat (FV.val (PV.int .i64 x2)))), (7, SV.home (OV.cont .nest x3)), (8, SV.home (OV.flat (FV.val (PV.int .i64 x4))))]) = f19_vestryref01_TakeRow.l0 rec n n := funext fun x0 => funext fun x1 => funext fun x2 => funext fun x3 => funext fun x4 => f19_vestryref01_TakeRow.l0_eq rec n n x0 x1 x2 x3 x4
  exact (show callBody C rec n 19 [OV.flat (FV.val (PV.sl none a0))] = f19_vestryref01_TakeRow.pre rec n (fun x0 x1 x2 x3 x4 => loopAt C rec n 19 [1, 1, 1, 1, 1, 1, 0, 1, 0] [] n [(0, SV.home (OV.flat (FV.val (PV.sl none x0)))), (5, SV.home (OV.flat (FV.val (PV.int .i64 x1)))), (6, SV.home (OV.flat (FV.val (PV.int .i64 x2)))), (7, SV.home (OV.cont .nest x3)), (8, SV.home (OV.flat (FV.val (PV.int .i64 x4))))]) a0 from by kernel_rfl).trans (by rw [i0]; rfl)

noncomputable def f20_vestrylaw01_SameRows.l0.step (rec : Rec) (n : Nat) (self_l0 : List PV → List PV → Int → Option (List OV × List OV)) (x0 : List PV) (x1 : List PV) (x2 : Int) : Option (List OV × List OV) :=
  ifB (decide (x2 < ((List.length x0 : Nat) : Int)))
  (needB (decide ((0 : Int) ≤ x2)) <|
  needB (decide (x2 < ((List.length x0 : Nat) : Int))) <|
  needB (hasT Go.Proofs.Try.prog 22 (nthP x0 (Int.toNat x2))) <|
  needB (List.all (PV.toL (nthP x0 (Int.toNat x2))) isByte) <|
  needB (decide ((0 : Int) ≤ x2)) <|
  needB (decide (x2 < ((List.length x1 : Nat) : Int))) <|
  needB (hasT Go.Proofs.Try.prog 22 (nthP x1 (Int.toNat x2))) <|
  needB (List.all (PV.toL (nthP x1 (Int.toNat x2))) isByte) <|
  ifB (!((List.map u8Of (PV.toL (nthP x0 (Int.toNat x2)))) == (List.map u8Of (PV.toL (nthP x1 (Int.toNat x2))))))
  (some ([OV.flat (FV.val (PV.bool false))], []))
  (self_l0 x0 x1 (IntKind.wrap .i64 (x2 + (1 : Int)))))
  (some ([OV.flat (FV.val (PV.bool true))], []))

noncomputable def f20_vestrylaw01_SameRows.l0 (rec : Rec) (n : Nat) : Nat → List PV → List PV → Int → Option (List OV × List OV)
  | 0, _, _, _ => none
  | m + 1, x0, x1, x2 => f20_vestrylaw01_SameRows.l0.step rec n (f20_vestrylaw01_SameRows.l0 rec n m) x0 x1 x2

theorem f20_vestrylaw01_SameRows.l0_eq (rec : Rec) (n : Nat) : ∀ (m : Nat) (x0 : List PV) (x1 : List PV) (x2 : Int), loopAt C rec n 20 [1, 1, 0, 1, 0] [] m [(0, SV.home (OV.flat (FV.val (PV.sl none x0)))), (1, SV.home (OV.flat (FV.val (PV.sl none x1)))), (5, SV.home (OV.flat (FV.val (PV.int .i64 x2))))] = f20_vestrylaw01_SameRows.l0 rec n m x0 x1 x2
  | 0, x0, x1, x2 => by kernel_rfl
  | m + 1, x0, x1, x2 => by
    have ih : (fun x0 x1 x2 => loopAt C rec n 20 [1, 1, 0, 1, 0] [] m [(0, SV.home (OV.flat (FV.val (PV.sl none x0)))), (1, SV.home (OV.flat (FV.val (PV.sl none x1)))), (5, SV.home (OV.flat (FV.val (PV.int .i64 x2))))]) = f20_vestrylaw01_SameRows.l0 rec n m := funext fun x0 => funext fun x1 => funext fun x2 => f20_vestrylaw01_SameRows.l0_eq rec n m x0 x1 x2
    exact (show loopAt C rec n 20 [1, 1, 0, 1, 0] [] (m + 1) [(0, SV.home (OV.flat (FV.val (PV.sl none x0)))), (1, SV.home (OV.flat (FV.val (PV.sl none x1)))), (5, SV.home (OV.flat (FV.val (PV.int .i64 x2))))] = f20_vestrylaw01_SameRows.l0.step rec n (fun x0 x1 x2 => loopAt C rec n 20 [1, 1, 0, 1, 0] [] m [(0, SV.home (OV.flat (FV.val (PV.sl none x0)))), (1, SV.home (OV.flat (FV.val (PV.sl none x1)))), (5, SV.home (OV.flat (FV.val (PV.int .i64 x2))))]) x0 x1 x2 from by kernel_rfl).trans (by rw [ih]; rfl)

noncomputable def f20_vestrylaw01_SameRows.pre (rec : Rec) (n : Nat) (l0 : List PV → List PV → Int → Option (List OV × List OV)) (a0 : List PV) (a1 : List PV) : Option (List OV × List OV) :=
  ifB (((List.length a0 : Nat) : Int) != ((List.length a1 : Nat) : Int))
  (some ([OV.flat (FV.val (PV.bool false))], []))
  (l0 a0 a1 (0 : Int))

noncomputable def f20_vestrylaw01_SameRows (rec : Rec) (n : Nat) (a0 : List PV) (a1 : List PV) : Option (List OV × List OV) := f20_vestrylaw01_SameRows.pre rec n (f20_vestrylaw01_SameRows.l0 rec n n) a0 a1

theorem f20_vestrylaw01_SameRows_eq (rec : Rec) (n : Nat) (a0 : List PV) (a1 : List PV) : callBody C rec n 20 [OV.flat (FV.val (PV.sl none a0)), OV.flat (FV.val (PV.sl none a1))] = f20_vestrylaw01_SameRows rec n a0 a1 := by
  have i0 : (fun x0 x1 x2 => loopAt C rec n 20 [1, 1, 0, 1, 0] [] n [(0, SV.home (OV.flat (FV.val (PV.sl none x0)))), (1, SV.home (OV.flat (FV.val (PV.sl none x1)))), (5, SV.home (OV.flat (FV.val (PV.int .i64 x2))))]) = f20_vestrylaw01_SameRows.l0 rec n n := funext fun x0 => funext fun x1 => funext fun x2 => f20_vestrylaw01_SameRows.l0_eq rec n n x0 x1 x2
  exact (show callBody C rec n 20 [OV.flat (FV.val (PV.sl none a0)), OV.flat (FV.val (PV.sl none a1))] = f20_vestrylaw01_SameRows.pre rec n (fun x0 x1 x2 => loopAt C rec n 20 [1, 1, 0, 1, 0] [] n [(0, SV.home (OV.flat (FV.val (PV.sl none x0)))), (1, SV.home (OV.flat (FV.val (PV.sl none x1)))), (5, SV.home (OV.flat (FV.val (PV.int .i64 x2))))]) a0 a1 from by kernel_rfl).trans (by rw [i0]; rfl)

noncomputable def f21_plain_NumKey (rec : Rec) (n : Nat) (a0 : Int) : Option (List OV × List OV) :=
  callB (rec 22 [OV.flat (FV.val (PV.int .i64 a0))]) fun r1 => needB (okOs Go.Proofs.Try.prog [22] [.o] (Prod.fst r1)) <|
  needB (decide ((0 : Int) < ((List.length (FV.xs (OV.fv (List.headD (Prod.fst r1) (OV.flat FV.gone)))) : Nat) : Int))) <|
  needB (Nat.blt 0 (List.length (FV.xs (OV.fv (List.headD (Prod.fst r1) (OV.flat FV.gone)))))) <|
  needB (hasT Go.Proofs.Try.prog 5 (nthP (FV.xs (OV.fv (List.headD (Prod.fst r1) (OV.flat FV.gone)))) 0)) <|
  needB (decide ((0 : Int) < ((List.length (FV.xs (OV.fv (List.headD (Prod.fst r1) (OV.flat FV.gone)))) : Nat) : Int))) <|
  needB (Nat.blt 0 (List.length (FV.xs (OV.fv (List.headD (Prod.fst r1) (OV.flat FV.gone)))))) <|
  some ([OV.flat (FV.own none (List.set (FV.xs (OV.fv (List.headD (Prod.fst r1) (OV.flat FV.gone)))) 0 (PV.int .u8 (IntKind.wrap .u8 (((BitVec.toNat ((BitVec.ofInt (IntKind.bits .u8) (PV.toI (nthP (FV.xs (OV.fv (List.headD (Prod.fst r1) (OV.flat FV.gone)))) 0))) ^^^ (BitVec.ofInt (IntKind.bits .u8) (128 : Int))) : Nat) : Int))))) [])], [])

theorem f21_plain_NumKey_eq (rec : Rec) (n : Nat) (a0 : Int) : callBody C rec n 21 [OV.flat (FV.val (PV.int .i64 a0))] = f21_plain_NumKey rec n a0 := by kernel_rfl

noncomputable def f22_plain_Num (rec : Rec) (n : Nat) (a0 : Int) : Option (List OV × List OV) :=
  callB (rec 29 [OV.flat (FV.own none [] []), OV.flat (FV.val (PV.int .i64 a0)), OV.flat (FV.val (PV.int .i64 (8 : Int)))]) fun r1 => needB (okOs Go.Proofs.Try.prog [22] [.o] (Prod.fst r1)) <|
  some ([OV.flat (FV.own none (FV.xs (OV.fv (List.headD (Prod.fst r1) (OV.flat FV.gone)))) [])], [])

theorem f22_plain_Num_eq (rec : Rec) (n : Nat) (a0 : Int) : callBody C rec n 22 [OV.flat (FV.val (PV.int .i64 a0))] = f22_plain_Num rec n a0 := by kernel_rfl

noncomputable def f23_plain_TakeNum (rec : Rec) (n : Nat) (a0 : List PV) : Option (List OV × List OV) :=
  callB (rec 34 [OV.flat (FV.val (PV.sl none a0)), OV.flat (FV.val (PV.int .i64 (8 : Int)))]) fun r1 => needB (okOs Go.Proofs.Try.prog [3, 4] [] (Prod.fst r1)) <|
  ifB (!(PV.toB (FV.pv (OV.fv (List.headD (List.tail (Prod.fst r1)) (OV.flat FV.gone))))))
  (some ([OV.flat (FV.val (PV.int .i64 (0 : Int))), OV.flat (FV.val (PV.int .i64 (0 : Int))), OV.flat (FV.val (PV.int .i64 (3 : Int)))], []))
  (some ([OV.flat (FV.val (PV.int .i64 (PV.toI (FV.pv (OV.fv (List.headD (Prod.fst r1) (OV.flat FV.gone))))))), OV.flat (FV.val (PV.int .i64 (8 : Int))), OV.flat (FV.val (PV.int .i64 (0 : Int)))], []))

theorem f23_plain_TakeNum_eq (rec : Rec) (n : Nat) (a0 : List PV) : callBody C rec n 23 [OV.flat (FV.val (PV.sl none a0))] = f23_plain_TakeNum rec n a0 := by kernel_rfl

noncomputable def f24_plain_TakeNumKey (rec : Rec) (n : Nat) (a0 : List PV) : Option (List OV × List OV) :=
  callB (rec 23 [OV.flat (FV.val (PV.sl none a0))]) fun r1 => needB (okOs Go.Proofs.Try.prog [3, 3, 25] [] (Prod.fst r1)) <|
  ifB (PV.toI (FV.pv (OV.fv (List.headD (List.tail (List.tail (Prod.fst r1))) (OV.flat FV.gone)))) != (0 : Int))
  (some ([OV.flat (FV.val (PV.int .i64 (0 : Int))), OV.flat (FV.val (PV.int .i64 (0 : Int))), OV.flat (FV.val (PV.int .i64 (PV.toI (FV.pv (OV.fv (List.headD (List.tail (List.tail (Prod.fst r1))) (OV.flat FV.gone)))))))], []))
  (some ([OV.flat (FV.val (PV.int .i64 (IntKind.wrap .i64 (((BitVec.toNat ((BitVec.ofInt (IntKind.bits .i64) (PV.toI (FV.pv (OV.fv (List.headD (Prod.fst r1) (OV.flat FV.gone)))))) ^^^ (BitVec.ofInt (IntKind.bits .i64) (-9223372036854775808 : Int))) : Nat) : Int))))), OV.flat (FV.val (PV.int .i64 (PV.toI (FV.pv (OV.fv (List.headD (List.tail (Prod.fst r1)) (OV.flat FV.gone))))))), OV.flat (FV.val (PV.int .i64 (0 : Int)))], []))

theorem f24_plain_TakeNumKey_eq (rec : Rec) (n : Nat) (a0 : List PV) : callBody C rec n 24 [OV.flat (FV.val (PV.sl none a0))] = f24_plain_TakeNumKey rec n a0 := by kernel_rfl

noncomputable def f25_vestryref01_TakeNum.l0.step (rec : Rec) (n : Nat) (self_l0 : List PV → Int → Int → Option (List OV × List OV)) (x0 : List PV) (x1 : Int) (x2 : Int) : Option (List OV × List OV) :=
  ifB (decide (x2 < (8 : Int)))
  (needB (decide ((0 : Int) ≤ x2)) <|
  needB (decide (x2 < ((List.length x0 : Nat) : Int))) <|
  needB (hasT Go.Proofs.Try.prog 5 (nthP x0 (Int.toNat x2))) <|
  self_l0 x0 (IntKind.wrap .i64 (((BitVec.toNat ((BitVec.ofInt (IntKind.bits .i64) (IntKind.wrap .i64 (x1 * (2 : Int) ^ (min 8 (IntKind.bits .i64))))) ||| (BitVec.ofInt (IntKind.bits .i64) (IntKind.wrap .i64 (PV.toI (nthP x0 (Int.toNat x2)))))) : Nat) : Int))) (IntKind.wrap .i64 (x2 + (1 : Int))))
  (some ([OV.flat (FV.val (PV.int .i64 x1)), OV.flat (FV.val (PV.int .i64 (8 : Int))), OV.flat (FV.val (PV.int .i64 (0 : Int)))], []))

noncomputable def f25_vestryref01_TakeNum.l0 (rec : Rec) (n : Nat) : Nat → List PV → Int → Int → Option (List OV × List OV)
  | 0, _, _, _ => none
  | m + 1, x0, x1, x2 => f25_vestryref01_TakeNum.l0.step rec n (f25_vestryref01_TakeNum.l0 rec n m) x0 x1 x2

theorem f25_vestryref01_TakeNum.l0_eq (rec : Rec) (n : Nat) : ∀ (m : Nat) (x0 : List PV) (x1 : Int) (x2 : Int), loopAt C rec n 25 [1, 1, 1, 0, 1, 0] [] m [(0, SV.home (OV.flat (FV.val (PV.sl none x0)))), (5, SV.home (OV.flat (FV.val (PV.int .i64 x1)))), (6, SV.home (OV.flat (FV.val (PV.int .i64 x2))))] = f25_vestryref01_TakeNum.l0 rec n m x0 x1 x2
  | 0, x0, x1, x2 => by kernel_rfl
  | m + 1, x0, x1, x2 => by
    have ih : (fun x0 x1 x2 => loopAt C rec n 25 [1, 1, 1, 0, 1, 0] [] m [(0, SV.home (OV.flat (FV.val (PV.sl none x0)))), (5, SV.home (OV.flat (FV.val (PV.int .i64 x1)))), (6, SV.home (OV.flat (FV.val (PV.int .i64 x2))))]) = f25_vestryref01_TakeNum.l0 rec n m := funext fun x0 => funext fun x1 => funext fun x2 => f25_vestryref01_TakeNum.l0_eq rec n m x0 x1 x2
    exact (show loopAt C rec n 25 [1, 1, 1, 0, 1, 0] [] (m + 1) [(0, SV.home (OV.flat (FV.val (PV.sl none x0)))), (5, SV.home (OV.flat (FV.val (PV.int .i64 x1)))), (6, SV.home (OV.flat (FV.val (PV.int .i64 x2))))] = f25_vestryref01_TakeNum.l0.step rec n (fun x0 x1 x2 => loopAt C rec n 25 [1, 1, 1, 0, 1, 0] [] m [(0, SV.home (OV.flat (FV.val (PV.sl none x0)))), (5, SV.home (OV.flat (FV.val (PV.int .i64 x1)))), (6, SV.home (OV.flat (FV.val (PV.int .i64 x2))))]) x0 x1 x2 from by kernel_rfl).trans (by rw [ih]; rfl)

noncomputable def f25_vestryref01_TakeNum.pre (rec : Rec) (n : Nat) (l0 : List PV → Int → Int → Option (List OV × List OV)) (a0 : List PV) : Option (List OV × List OV) :=
  ifB (decide (((List.length a0 : Nat) : Int) < (8 : Int)))
  (some ([OV.flat (FV.val (PV.int .i64 (0 : Int))), OV.flat (FV.val (PV.int .i64 (0 : Int))), OV.flat (FV.val (PV.int .i64 (3 : Int)))], []))
  (l0 a0 (0 : Int) (0 : Int))

noncomputable def f25_vestryref01_TakeNum (rec : Rec) (n : Nat) (a0 : List PV) : Option (List OV × List OV) := f25_vestryref01_TakeNum.pre rec n (f25_vestryref01_TakeNum.l0 rec n n) a0

theorem f25_vestryref01_TakeNum_eq (rec : Rec) (n : Nat) (a0 : List PV) : callBody C rec n 25 [OV.flat (FV.val (PV.sl none a0))] = f25_vestryref01_TakeNum rec n a0 := by
  have i0 : (fun x0 x1 x2 => loopAt C rec n 25 [1, 1, 1, 0, 1, 0] [] n [(0, SV.home (OV.flat (FV.val (PV.sl none x0)))), (5, SV.home (OV.flat (FV.val (PV.int .i64 x1)))), (6, SV.home (OV.flat (FV.val (PV.int .i64 x2))))]) = f25_vestryref01_TakeNum.l0 rec n n := funext fun x0 => funext fun x1 => funext fun x2 => f25_vestryref01_TakeNum.l0_eq rec n n x0 x1 x2
  exact (show callBody C rec n 25 [OV.flat (FV.val (PV.sl none a0))] = f25_vestryref01_TakeNum.pre rec n (fun x0 x1 x2 => loopAt C rec n 25 [1, 1, 1, 0, 1, 0] [] n [(0, SV.home (OV.flat (FV.val (PV.sl none x0)))), (5, SV.home (OV.flat (FV.val (PV.int .i64 x1)))), (6, SV.home (OV.flat (FV.val (PV.int .i64 x2))))]) a0 from by kernel_rfl).trans (by rw [i0]; rfl)

noncomputable def f26_vestryref01_TakeNumKey (rec : Rec) (n : Nat) (a0 : List PV) : Option (List OV × List OV) :=
  ifB (decide (((List.length a0 : Nat) : Int) < (8 : Int)))
  (some ([OV.flat (FV.val (PV.int .i64 (0 : Int))), OV.flat (FV.val (PV.int .i64 (0 : Int))), OV.flat (FV.val (PV.int .i64 (3 : Int)))], []))
  (needB (decide ((8 : Int) ≤ ((List.length a0 : Nat) : Int))) <|
  needB (Nat.ble ((List.length ([] : List PV) + List.length (List.take 8 a0)) * 1) 140737488355328) <|
  needB (Nat.ble (List.length ([] : List PV) + List.length (List.take 8 a0)) 9223372036854775807) <|
  needB (decide ((0 : Int) < ((List.length ([] ++ (List.take 8 a0)) : Nat) : Int))) <|
  needB (Nat.blt 0 (List.length ([] ++ (List.take 8 a0)))) <|
  needB (hasT Go.Proofs.Try.prog 5 (nthP ([] ++ (List.take 8 a0)) 0)) <|
  needB (decide ((0 : Int) < ((List.length ([] ++ (List.take 8 a0)) : Nat) : Int))) <|
  needB (Nat.blt 0 (List.length ([] ++ (List.take 8 a0)))) <|
  callB (rec 25 [OV.flat (FV.val (PV.sl none (List.set ([] ++ (List.take 8 a0)) 0 (PV.int .u8 (IntKind.wrap .u8 (((BitVec.toNat ((BitVec.ofInt (IntKind.bits .u8) (PV.toI (nthP ([] ++ (List.take 8 a0)) 0))) ^^^ (BitVec.ofInt (IntKind.bits .u8) (128 : Int))) : Nat) : Int)))))))]) fun r1 => needB (okOs Go.Proofs.Try.prog [3, 3, 25] [] (Prod.fst r1)) <|
  some ([OV.flat (FV.val (PV.int .i64 (PV.toI (FV.pv (OV.fv (List.headD (Prod.fst r1) (OV.flat FV.gone))))))), OV.flat (FV.val (PV.int .i64 (PV.toI (FV.pv (OV.fv (List.headD (List.tail (Prod.fst r1)) (OV.flat FV.gone))))))), OV.flat (FV.val (PV.int .i64 (PV.toI (FV.pv (OV.fv (List.headD (List.tail (List.tail (Prod.fst r1))) (OV.flat FV.gone)))))))], []))

theorem f26_vestryref01_TakeNumKey_eq (rec : Rec) (n : Nat) (a0 : List PV) : callBody C rec n 26 [OV.flat (FV.val (PV.sl none a0))] = f26_vestryref01_TakeNumKey rec n a0 := by kernel_rfl

noncomputable def f27_vestryref01_Num.l0.step (rec : Rec) (n : Nat) (self_l0 : Int → List PV → Int → Option (List OV × List OV)) (x0 : Int) (x1 : List PV) (x2 : Int) : Option (List OV × List OV) :=
  ifB (decide (x2 ≥ (0 : Int)))
  (needB (decide ((0 : Int) ≤ x2)) <|
  needB (decide (x2 < ((List.length x1 : Nat) : Int))) <|
  needB (Nat.blt (Int.toNat x2) (List.length x1)) <|
  self_l0 (Int.fdiv x0 ((2 : Int) ^ (min 8 (IntKind.bits .i64)))) (List.set x1 (Int.toNat x2) (PV.int .u8 (IntKind.wrap .u8 x0))) (IntKind.wrap .i64 (x2 - (1 : Int))))
  (some ([OV.flat (FV.own none x1 [])], []))

noncomputable def f27_vestryref01_Num.l0 (rec : Rec) (n : Nat) : Nat → Int → List PV → Int → Option (List OV × List OV)
  | 0, _, _, _ => none
  | m + 1, x0, x1, x2 => f27_vestryref01_Num.l0.step rec n (f27_vestryref01_Num.l0 rec n m) x0 x1 x2

theorem f27_vestryref01_Num.l0_eq (rec : Rec) (n : Nat) : ∀ (m : Nat) (x0 : Int) (x1 : List PV) (x2 : Int), loopAt C rec n 27 [1, 1, 0, 1, 0] [] m [(0, SV.home (OV.flat (FV.val (PV.int .i64 x0)))), (3, SV.home (OV.flat (FV.own none x1 []))), (4, SV.home (OV.flat (FV.val (PV.int .i64 x2))))] = f27_vestryref01_Num.l0 rec n m x0 x1 x2
  | 0, x0, x1, x2 => by kernel_rfl
  | m + 1, x0, x1, x2 => by
    have ih : (fun x0 x1 x2 => loopAt C rec n 27 [1, 1, 0, 1, 0] [] m [(0, SV.home (OV.flat (FV.val (PV.int .i64 x0)))), (3, SV.home (OV.flat (FV.own none x1 []))), (4, SV.home (OV.flat (FV.val (PV.int .i64 x2))))]) = f27_vestryref01_Num.l0 rec n m := funext fun x0 => funext fun x1 => funext fun x2 => f27_vestryref01_Num.l0_eq rec n m x0 x1 x2
    exact (show loopAt C rec n 27 [1, 1, 0, 1, 0] [] (m + 1) [(0, SV.home (OV.flat (FV.val (PV.int .i64 x0)))), (3, SV.home (OV.flat (FV.own none x1 []))), (4, SV.home (OV.flat (FV.val (PV.int .i64 x2))))] = f27_vestryref01_Num.l0.step rec n (fun x0 x1 x2 => loopAt C rec n 27 [1, 1, 0, 1, 0] [] m [(0, SV.home (OV.flat (FV.val (PV.int .i64 x0)))), (3, SV.home (OV.flat (FV.own none x1 []))), (4, SV.home (OV.flat (FV.val (PV.int .i64 x2))))]) x0 x1 x2 from by kernel_rfl).trans (by rw [ih]; rfl)

noncomputable def f27_vestryref01_Num.pre (rec : Rec) (n : Nat) (l0 : Int → List PV → Int → Option (List OV × List OV)) (a0 : Int) : Option (List OV × List OV) :=
  needB (Nat.ble (1 * 8) 140737488355328) <|
  l0 a0 (List.replicate 8 (PV.int .u8 (0 : Int))) (7 : Int)

noncomputable def f27_vestryref01_Num (rec : Rec) (n : Nat) (a0 : Int) : Option (List OV × List OV) := f27_vestryref01_Num.pre rec n (f27_vestryref01_Num.l0 rec n n) a0

theorem f27_vestryref01_Num_eq (rec : Rec) (n : Nat) (a0 : Int) : callBody C rec n 27 [OV.flat (FV.val (PV.int .i64 a0))] = f27_vestryref01_Num rec n a0 := by
  have i0 : (fun x0 x1 x2 => loopAt C rec n 27 [1, 1, 0, 1, 0] [] n [(0, SV.home (OV.flat (FV.val (PV.int .i64 x0)))), (3, SV.home (OV.flat (FV.own none x1 []))), (4, SV.home (OV.flat (FV.val (PV.int .i64 x2))))]) = f27_vestryref01_Num.l0 rec n n := funext fun x0 => funext fun x1 => funext fun x2 => f27_vestryref01_Num.l0_eq rec n n x0 x1 x2
  exact (show callBody C rec n 27 [OV.flat (FV.val (PV.int .i64 a0))] = f27_vestryref01_Num.pre rec n (fun x0 x1 x2 => loopAt C rec n 27 [1, 1, 0, 1, 0] [] n [(0, SV.home (OV.flat (FV.val (PV.int .i64 x0)))), (3, SV.home (OV.flat (FV.own none x1 []))), (4, SV.home (OV.flat (FV.val (PV.int .i64 x2))))]) a0 from by kernel_rfl).trans (by rw [i0]; rfl)

noncomputable def f28_vestryref01_NumKey (rec : Rec) (n : Nat) (a0 : Int) : Option (List OV × List OV) :=
  callB (rec 27 [OV.flat (FV.val (PV.int .i64 a0))]) fun r1 => needB (okOs Go.Proofs.Try.prog [22] [.o] (Prod.fst r1)) <|
  needB (decide ((0 : Int) < ((List.length (FV.xs (OV.fv (List.headD (Prod.fst r1) (OV.flat FV.gone)))) : Nat) : Int))) <|
  needB (Nat.blt 0 (List.length (FV.xs (OV.fv (List.headD (Prod.fst r1) (OV.flat FV.gone)))))) <|
  needB (hasT Go.Proofs.Try.prog 5 (nthP (FV.xs (OV.fv (List.headD (Prod.fst r1) (OV.flat FV.gone)))) 0)) <|
  needB (decide ((0 : Int) < ((List.length (FV.xs (OV.fv (List.headD (Prod.fst r1) (OV.flat FV.gone)))) : Nat) : Int))) <|
  needB (Nat.blt 0 (List.length (FV.xs (OV.fv (List.headD (Prod.fst r1) (OV.flat FV.gone)))))) <|
  some ([OV.flat (FV.own none (List.set (FV.xs (OV.fv (List.headD (Prod.fst r1) (OV.flat FV.gone)))) 0 (PV.int .u8 (IntKind.wrap .u8 (((BitVec.toNat ((BitVec.ofInt (IntKind.bits .u8) (PV.toI (nthP (FV.xs (OV.fv (List.headD (Prod.fst r1) (OV.flat FV.gone)))) 0))) ^^^ (BitVec.ofInt (IntKind.bits .u8) (128 : Int))) : Nat) : Int))))) [])], [])

theorem f28_vestryref01_NumKey_eq (rec : Rec) (n : Nat) (a0 : Int) : callBody C rec n 28 [OV.flat (FV.val (PV.int .i64 a0))] = f28_vestryref01_NumKey rec n a0 := by kernel_rfl

noncomputable def f29_plain_put.l0.step (rec : Rec) (n : Nat) (self_l0 : List PV → Int → Int → Option (List OV × List OV)) (x0 : List PV) (x1 : Int) (x2 : Int) : Option (List OV × List OV) :=
  ifB (decide (x2 ≥ (0 : Int)))
  (needB (decide ((0 : Int) ≤ x2)) <|
  needB (Nat.ble ((List.length x0 + List.length [PV.int .u8 (IntKind.wrap .u8 (Int.fdiv x1 ((2 : Int) ^ (min (Int.toNat x2) (IntKind.bits .i64)))))]) * 1) 140737488355328) <|
  needB (Nat.ble (List.length x0 + List.length [PV.int .u8 (IntKind.wrap .u8 (Int.fdiv x1 ((2 : Int) ^ (min (Int.toNat x2) (IntKind.bits .i64)))))]) 9223372036854775807) <|
  self_l0 (x0 ++ [PV.int .u8 (IntKind.wrap .u8 (Int.fdiv x1 ((2 : Int) ^ (min (Int.toNat x2) (IntKind.bits .i64)))))]) x1 (IntKind.wrap .i64 (x2 - (8 : Int))))
  (some ([OV.flat (FV.own none x0 [])], [OV.flat FV.gone, OV.flat FV.gone, OV.flat FV.gone]))

noncomputable def f29_plain_put.l0 (rec : Rec) (n : Nat) : Nat → List PV → Int → Int → Option (List OV × List OV)
  | 0, _, _, _ => none
  | m + 1, x0, x1, x2 => f29_plain_put.l0.step rec n (f29_plain_put.l0 rec n m) x0 x1 x2

theorem f29_plain_put.l0_eq (rec : Rec) (n : Nat) : ∀ (m : Nat) (x0 : List PV) (x1 : Int) (x2 : Int), loopAt C rec n 29 [1, 0, 1, 0] [] m [(0, SV.home (OV.flat (FV.own none x0 []))), (1, SV.home (OV.flat (FV.val (PV.int .i64 x1)))), (7, SV.home (OV.flat (FV.val (PV.int .i64 x2))))] = f29_plain_put.l0 rec n m x0 x1 x2
  | 0, x0, x1, x2 => by kernel_rfl
  | m + 1, x0, x1, x2 => by
    have ih : (fun x0 x1 x2 => loopAt C rec n 29 [1, 0, 1, 0] [] m [(0, SV.home (OV.flat (FV.own none x0 []))), (1, SV.home (OV.flat (FV.val (PV.int .i64 x1)))), (7, SV.home (OV.flat (FV.val (PV.int .i64 x2))))]) = f29_plain_put.l0 rec n m := funext fun x0 => funext fun x1 => funext fun x2 => f29_plain_put.l0_eq rec n m x0 x1 x2
    exact (show loopAt C rec n 29 [1, 0, 1, 0] [] (m + 1) [(0, SV.home (OV.flat (FV.own none x0 []))), (1, SV.home (OV.flat (FV.val (PV.int .i64 x1)))), (7, SV.home (OV.flat (FV.val (PV.int .i64 x2))))] = f29_plain_put.l0.step rec n (fun x0 x1 x2 => loopAt C rec n 29 [1, 0, 1, 0] [] m [(0, SV.home (OV.flat (FV.own none x0 []))), (1, SV.home (OV.flat (FV.val (PV.int .i64 x1)))), (7, SV.home (OV.flat (FV.val (PV.int .i64 x2))))]) x0 x1 x2 from by kernel_rfl).trans (by rw [ih]; rfl)

noncomputable def f29_plain_put.pre (rec : Rec) (n : Nat) (l0 : List PV → Int → Int → Option (List OV × List OV)) (a0 : List PV) (a1 : Int) (a2 : Int) : Option (List OV × List OV) :=
  l0 a0 a1 (IntKind.wrap .i64 ((8 : Int) * IntKind.wrap .i64 (a2 - (1 : Int))))

noncomputable def f29_plain_put (rec : Rec) (n : Nat) (a0 : List PV) (a1 : Int) (a2 : Int) : Option (List OV × List OV) := f29_plain_put.pre rec n (f29_plain_put.l0 rec n n) a0 a1 a2

theorem f29_plain_put_eq (rec : Rec) (n : Nat) (a0 : List PV) (a1 : Int) (a2 : Int) : callBody C rec n 29 [OV.flat (FV.own none a0 []), OV.flat (FV.val (PV.int .i64 a1)), OV.flat (FV.val (PV.int .i64 a2))] = f29_plain_put rec n a0 a1 a2 := by
  have i0 : (fun x0 x1 x2 => loopAt C rec n 29 [1, 0, 1, 0] [] n [(0, SV.home (OV.flat (FV.own none x0 []))), (1, SV.home (OV.flat (FV.val (PV.int .i64 x1)))), (7, SV.home (OV.flat (FV.val (PV.int .i64 x2))))]) = f29_plain_put.l0 rec n n := funext fun x0 => funext fun x1 => funext fun x2 => f29_plain_put.l0_eq rec n n x0 x1 x2
  exact (show callBody C rec n 29 [OV.flat (FV.own none a0 []), OV.flat (FV.val (PV.int .i64 a1)), OV.flat (FV.val (PV.int .i64 a2))] = f29_plain_put.pre rec n (fun x0 x1 x2 => loopAt C rec n 29 [1, 0, 1, 0] [] n [(0, SV.home (OV.flat (FV.own none x0 []))), (1, SV.home (OV.flat (FV.val (PV.int .i64 x1)))), (7, SV.home (OV.flat (FV.val (PV.int .i64 x2))))]) a0 a1 a2 from by kernel_rfl).trans (by rw [i0]; rfl)

noncomputable def f30_plain_count (rec : Rec) (n : Nat) (a0 : List PV) (a1 : Int) : Option (List OV × List OV) :=
  callB (rec 34 [OV.flat (FV.val (PV.sl none a0)), OV.flat (FV.val (PV.int .i64 (4 : Int)))]) fun r1 => needB (okOs Go.Proofs.Try.prog [3, 4] [] (Prod.fst r1)) <|
  ifB (!(PV.toB (FV.pv (OV.fv (List.headD (List.tail (Prod.fst r1)) (OV.flat FV.gone))))))
  (some ([OV.flat (FV.val (PV.int .i64 (0 : Int))), OV.flat (FV.val (PV.int .i64 (3 : Int)))], []))
  (ifB (decide (PV.toI (FV.pv (OV.fv (List.headD (Prod.fst r1) (OV.flat FV.gone)))) > a1))
  (some ([OV.flat (FV.val (PV.int .i64 (0 : Int))), OV.flat (FV.val (PV.int .i64 (2 : Int)))], []))
  (some ([OV.flat (FV.val (PV.int .i64 (PV.toI (FV.pv (OV.fv (List.headD (Prod.fst r1) (OV.flat FV.gone))))))), OV.flat (FV.val (PV.int .i64 (0 : Int)))], [])))

theorem f30_plain_count_eq (rec : Rec) (n : Nat) (a0 : List PV) (a1 : Int) : callBody C rec n 30 [OV.flat (FV.val (PV.sl none a0)), OV.flat (FV.val (PV.int .i64 a1))] = f30_plain_count rec n a0 a1 := by kernel_rfl

noncomputable def f32_vestryref01_four (rec : Rec) (n : Nat) (a0 : Int) : Option (List OV × List OV) :=
  some ([OV.flat (FV.own none [PV.int .u8 (IntKind.wrap .u8 (IntKind.wrap .i64 (Int.tdiv a0 (16777216 : Int)))), PV.int .u8 (IntKind.wrap .u8 (IntKind.wrap .i64 (Int.tdiv a0 (65536 : Int)))), PV.int .u8 (IntKind.wrap .u8 (IntKind.wrap .i64 (Int.tdiv a0 (256 : Int)))), PV.int .u8 (IntKind.wrap .u8 a0)] [])], [])

theorem f32_vestryref01_four_eq (rec : Rec) (n : Nat) (a0 : Int) : callBody C rec n 32 [OV.flat (FV.val (PV.int .i64 a0))] = f32_vestryref01_four rec n a0 := by kernel_rfl

noncomputable def f33_vestryref01_count (rec : Rec) (n : Nat) (a0 : List PV) : Option (List OV × List OV) :=
  needB (decide ((0 : Int) < ((List.length a0 : Nat) : Int))) <|
  needB (hasT Go.Proofs.Try.prog 5 (nthP a0 0)) <|
  needB (decide ((1 : Int) < ((List.length a0 : Nat) : Int))) <|
  needB (hasT Go.Proofs.Try.prog 5 (nthP a0 1)) <|
  needB (decide ((2 : Int) < ((List.length a0 : Nat) : Int))) <|
  needB (hasT Go.Proofs.Try.prog 5 (nthP a0 2)) <|
  needB (decide ((3 : Int) < ((List.length a0 : Nat) : Int))) <|
  needB (hasT Go.Proofs.Try.prog 5 (nthP a0 3)) <|
  some ([OV.flat (FV.val (PV.int .i64 (IntKind.wrap .i64 (IntKind.wrap .i64 (IntKind.wrap .i64 (IntKind.wrap .i64 (IntKind.wrap .i64 (PV.toI (nthP a0 0)) * (16777216 : Int)) + IntKind.wrap .i64 (IntKind.wrap .i64 (PV.toI (nthP a0 1)) * (65536 : Int))) + IntKind.wrap .i64 (IntKind.wrap .i64 (PV.toI (nthP a0 2)) * (256 : Int))) + IntKind.wrap .i64 (PV.toI (nthP a0 3))))))], [])

theorem f33_vestryref01_count_eq (rec : Rec) (n : Nat) (a0 : List PV) : callBody C rec n 33 [OV.flat (FV.val (PV.sl none a0))] = f33_vestryref01_count rec n a0 := by kernel_rfl

noncomputable def f34_plain_take.l0.step (rec : Rec) (n : Nat) (self_l0 : Int → List PV → Int → Int → Option (List OV × List OV)) (x0 : Int) (x1 : List PV) (x2 : Int) (x3 : Int) : Option (List OV × List OV) :=
  ifB (decide (x3 < x2))
  (needB (decide ((0 : Int) ≤ x3)) <|
  needB (decide (x3 < ((List.length x1 : Nat) : Int))) <|
  needB (hasT Go.Proofs.Try.prog 5 (nthP x1 (Int.toNat x3))) <|
  self_l0 (IntKind.wrap .i64 (((BitVec.toNat ((BitVec.ofInt (IntKind.bits .i64) (IntKind.wrap .i64 (x0 * (2 : Int) ^ (min 8 (IntKind.bits .i64))))) ||| (BitVec.ofInt (IntKind.bits .i64) (IntKind.wrap .i64 (PV.toI (nthP x1 (Int.toNat x3)))))) : Nat) : Int))) x1 x2 (IntKind.wrap .i64 (x3 + (1 : Int))))
  (some ([OV.flat (FV.val (PV.int .i64 x0)), OV.flat (FV.val (PV.bool true))], []))

noncomputable def f34_plain_take.l0 (rec : Rec) (n : Nat) : Nat → Int → List PV → Int → Int → Option (List OV × List OV)
  | 0, _, _, _, _ => none
  | m + 1, x0, x1, x2, x3 => f34_plain_take.l0.step rec n (f34_plain_take.l0 rec n m) x0 x1 x2 x3

theorem f34_plain_take.l0_eq (rec : Rec) (n : Nat) : ∀ (m : Nat) (x0 : Int) (x1 : List PV) (x2 : Int) (x3 : Int), loopAt C rec n 34 [1, 1, 1, 0, 1, 0] [] m [(6, SV.home (OV.flat (FV.val (PV.int .i64 x0)))), (15, SV.home (OV.flat (FV.val (PV.sl none x1)))), (16, SV.home (OV.flat (FV.val (PV.int .i64 x2)))), (17, SV.home (OV.flat (FV.val (PV.int .i64 x3))))] = f34_plain_take.l0 rec n m x0 x1 x2 x3
  | 0, x0, x1, x2, x3 => by kernel_rfl
  | m + 1, x0, x1, x2, x3 => by
    have ih : (fun x0 x1 x2 x3 => loopAt C rec n 34 [1, 1, 1, 0, 1, 0] [] m [(6, SV.home (OV.flat (FV.val (PV.int .i64 x0)))), (15, SV.home (OV.flat (FV.val (PV.sl none x1)))), (16, SV.home (OV.flat (FV.val (PV.int .i64 x2)))), (17, SV.home (OV.flat (FV.val (PV.int .i64 x3))))]) = f34_plain_take.l0 rec n m := funext fun x0 => funext fun x1 => funext fun x2 => funext fun x3 => f34_plain_take.l0_eq rec n m x0 x1 x2 x3
    exact (show loopAt C rec n 34 [1, 1, 1, 0, 1, 0] [] (m + 1) [(6, SV.home (OV.flat (FV.val (PV.int .i64 x0)))), (15, SV.home (OV.flat (FV.val (PV.sl none x1)))), (16, SV.home (OV.flat (FV.val (PV.int .i64 x2)))), (17, SV.home (OV.flat (FV.val (PV.int .i64 x3))))] = f34_plain_take.l0.step rec n (fun x0 x1 x2 x3 => loopAt C rec n 34 [1, 1, 1, 0, 1, 0] [] m [(6, SV.home (OV.flat (FV.val (PV.int .i64 x0)))), (15, SV.home (OV.flat (FV.val (PV.sl none x1)))), (16, SV.home (OV.flat (FV.val (PV.int .i64 x2)))), (17, SV.home (OV.flat (FV.val (PV.int .i64 x3))))]) x0 x1 x2 x3 from by kernel_rfl).trans (by rw [ih]; rfl)

noncomputable def f34_plain_take.pre (rec : Rec) (n : Nat) (l0 : Int → List PV → Int → Int → Option (List OV × List OV)) (a0 : List PV) (a1 : Int) : Option (List OV × List OV) :=
  ifB (decide (((List.length a0 : Nat) : Int) < a1))
  (some ([OV.flat (FV.val (PV.int .i64 (0 : Int))), OV.flat (FV.val (PV.bool false))], []))
  (needB (decide ((0 : Int) ≤ a1)) <|
  needB (decide (a1 ≤ ((List.length a0 : Nat) : Int))) <|
  l0 (0 : Int) (List.take (Int.toNat a1) a0) ((List.length (List.take (Int.toNat a1) a0) : Nat) : Int) (0 : Int))

noncomputable def f34_plain_take (rec : Rec) (n : Nat) (a0 : List PV) (a1 : Int) : Option (List OV × List OV) := f34_plain_take.pre rec n (f34_plain_take.l0 rec n n) a0 a1

theorem f34_plain_take_eq (rec : Rec) (n : Nat) (a0 : List PV) (a1 : Int) : callBody C rec n 34 [OV.flat (FV.val (PV.sl none a0)), OV.flat (FV.val (PV.int .i64 a1))] = f34_plain_take rec n a0 a1 := by
  have i0 : (fun x0 x1 x2 x3 => loopAt C rec n 34 [1, 1, 1, 0, 1, 0] [] n [(6, SV.home (OV.flat (FV.val (PV.int .i64 x0)))), (15, SV.home (OV.flat (FV.val (PV.sl none x1)))), (16, SV.home (OV.flat (FV.val (PV.int .i64 x2)))), (17, SV.home (OV.flat (FV.val (PV.int .i64 x3))))]) = f34_plain_take.l0 rec n n := funext fun x0 => funext fun x1 => funext fun x2 => funext fun x3 => f34_plain_take.l0_eq rec n n x0 x1 x2 x3
  exact (show callBody C rec n 34 [OV.flat (FV.val (PV.sl none a0)), OV.flat (FV.val (PV.int .i64 a1))] = f34_plain_take.pre rec n (fun x0 x1 x2 x3 => loopAt C rec n 34 [1, 1, 1, 0, 1, 0] [] n [(6, SV.home (OV.flat (FV.val (PV.int .i64 x0)))), (15, SV.home (OV.flat (FV.val (PV.sl none x1)))), (16, SV.home (OV.flat (FV.val (PV.int .i64 x2)))), (17, SV.home (OV.flat (FV.val (PV.int .i64 x3))))]) a0 a1 from by kernel_rfl).trans (by rw [i0]; rfl)

end Go.Proofs.Ythkmnomnfmjffaa

