/- What the functions answer, and the laws. -/
import Derived.Test.YtdmigcfokjobaaaCtx

set_option linter.unusedVariables false

set_option linter.unusedSimpArgs false

set_option linter.unusedSectionVars false

open Go Go.Ev

set_option linter.unusedVariables false

set_option maxRecDepth 100000

namespace Go.Proofs.Ytdmigcfokjobaaa

noncomputable def f3_vestrylaw13_EvalOps (rec : Rec) (n : Nat) (a0 : Int) (a1 : Int) (a2 : Int) (a3 : List UInt8) (a4 : Int) (a5 : Int) (a6 : List UInt8) : Option (List OV × List OV) :=
  callB (rec 8 []) fun r1 => needB (okOs Go.Proofs.Try.prog [4] [] (Prod.fst r1)) <|
  callB (rec 9 [OV.flat (FV.val (PV.int .i64 a0)), OV.flat (FV.val (PV.agg [PV.int .i64 a1, PV.int .i64 a2, PV.str a3])), OV.flat (FV.val (PV.agg [PV.int .i64 a4, PV.int .i64 a5, PV.str a6]))]) fun r2 => needB (okOs Go.Proofs.Try.prog [23, 25] [] (Prod.fst r2)) <|
  callB (rec 10 [OV.flat (FV.val (PV.int .i64 a0)), OV.flat (FV.val (PV.agg [PV.int .i64 a1, PV.int .i64 a2, PV.str a3])), OV.flat (FV.val (PV.agg [PV.int .i64 a4, PV.int .i64 a5, PV.str a6]))]) fun r3 => needB (okOs Go.Proofs.Try.prog [23, 25] [] (Prod.fst r3)) <|
  ifB (PV.toB (FV.pv (OV.fv (List.headD (Prod.fst r1) (OV.flat FV.gone)))))
  (ifB (((PV.toI (List.headD (PV.cells (FV.pv (OV.fv (List.headD (Prod.fst r2) (OV.flat FV.gone))))) PV.undef)) == (PV.toI (List.headD (PV.cells (FV.pv (OV.fv (List.headD (Prod.fst r3) (OV.flat FV.gone))))) PV.undef))) && (((PV.toI (List.headD (List.tail (PV.cells (FV.pv (OV.fv (List.headD (Prod.fst r2) (OV.flat FV.gone)))))) PV.undef)) == (PV.toI (List.headD (List.tail (PV.cells (FV.pv (OV.fv (List.headD (Prod.fst r3) (OV.flat FV.gone)))))) PV.undef))) && (((PV.toS (List.headD (List.tail (List.tail (PV.cells (FV.pv (OV.fv (List.headD (Prod.fst r2) (OV.flat FV.gone))))))) PV.undef)) == (PV.toS (List.headD (List.tail (List.tail (PV.cells (FV.pv (OV.fv (List.headD (Prod.fst r3) (OV.flat FV.gone))))))) PV.undef))) && (true))))
  (some ([OV.flat (FV.val (PV.bool (PV.toI (FV.pv (OV.fv (List.headD (List.tail (Prod.fst r2)) (OV.flat FV.gone)))) == PV.toI (FV.pv (OV.fv (List.headD (List.tail (Prod.fst r3)) (OV.flat FV.gone)))))))], []))
  (some ([OV.flat (FV.val (PV.bool false))], [])))
  (some ([OV.flat (FV.val (PV.bool false))], []))

theorem f3_vestrylaw13_EvalOps_eq (rec : Rec) (n : Nat) (a0 : Int) (a1 : Int) (a2 : Int) (a3 : List UInt8) (a4 : Int) (a5 : Int) (a6 : List UInt8) : callBody C rec n 3 [OV.flat (FV.val (PV.int .i64 a0)), OV.flat (FV.val (PV.agg [PV.int .i64 a1, PV.int .i64 a2, PV.str a3])), OV.flat (FV.val (PV.agg [PV.int .i64 a4, PV.int .i64 a5, PV.str a6]))] = f3_vestrylaw13_EvalOps rec n a0 a1 a2 a3 a4 a5 a6 := by kernel_rfl

noncomputable def f4_vestrylaw13_EvalLogic (rec : Rec) (n : Nat) (a0 : Int) (a1 : Int) (a2 : List UInt8) (a3 : Int) (a4 : Int) (a5 : List UInt8) (a6 : Int) (a7 : Int) (a8 : List UInt8) : Option (List OV × List OV) :=
  callB (rec 8 []) fun r1 => needB (okOs Go.Proofs.Try.prog [4] [] (Prod.fst r1)) <|
  callB (rec 11 [OV.flat (FV.val (PV.agg [PV.int .i64 a0, PV.int .i64 a1, PV.str a2]))]) fun r2 => needB (okOs Go.Proofs.Try.prog [25] [] (Prod.fst r2)) <|
  ifB (PV.toI (FV.pv (OV.fv (List.headD (Prod.fst r2) (OV.flat FV.gone)))) != (0 : Int))
  (some ([OV.flat (FV.val (PV.bool (PV.toB (FV.pv (OV.fv (List.headD (Prod.fst r1) (OV.flat FV.gone)))))))], []))
  (callB (rec 11 [OV.flat (FV.val (PV.agg [PV.int .i64 a3, PV.int .i64 a4, PV.str a5]))]) fun r3 => needB (okOs Go.Proofs.Try.prog [25] [] (Prod.fst r3)) <|
  ifB (PV.toI (FV.pv (OV.fv (List.headD (Prod.fst r3) (OV.flat FV.gone)))) != (0 : Int))
  (some ([OV.flat (FV.val (PV.bool (PV.toB (FV.pv (OV.fv (List.headD (Prod.fst r1) (OV.flat FV.gone)))))))], []))
  (callB (rec 11 [OV.flat (FV.val (PV.agg [PV.int .i64 a6, PV.int .i64 a7, PV.str a8]))]) fun r4 => needB (okOs Go.Proofs.Try.prog [25] [] (Prod.fst r4)) <|
  ifB (PV.toI (FV.pv (OV.fv (List.headD (Prod.fst r4) (OV.flat FV.gone)))) != (0 : Int))
  (some ([OV.flat (FV.val (PV.bool (PV.toB (FV.pv (OV.fv (List.headD (Prod.fst r1) (OV.flat FV.gone)))))))], []))
  (ifB (a0 == (2 : Int))
  (some ([OV.flat (FV.val (PV.bool (PV.toB (FV.pv (OV.fv (List.headD (Prod.fst r1) (OV.flat FV.gone)))))))], []))
  (ifB (a3 == (2 : Int))
  (some ([OV.flat (FV.val (PV.bool (PV.toB (FV.pv (OV.fv (List.headD (Prod.fst r1) (OV.flat FV.gone)))))))], []))
  (ifB (a6 == (2 : Int))
  (some ([OV.flat (FV.val (PV.bool (PV.toB (FV.pv (OV.fv (List.headD (Prod.fst r1) (OV.flat FV.gone)))))))], []))
  (callB (rec 12 [OV.flat (FV.val (PV.int .i64 (2 : Int))), OV.flat (FV.val (PV.agg [PV.int .i64 a0, PV.int .i64 a1, PV.str a2])), OV.flat (FV.val (PV.agg [PV.int .i64 a3, PV.int .i64 a4, PV.str a5]))]) fun r5 => needB (okOs Go.Proofs.Try.prog [23] [] (Prod.fst r5)) <|
  callB (rec 12 [OV.flat (FV.val (PV.int .i64 (1 : Int))), OV.flat (FV.val (PV.agg [PV.int .i64 a0, PV.int .i64 a1, PV.str a2])), OV.flat (FV.val (PV.agg [PV.int .i64 a3, PV.int .i64 a4, PV.str a5]))]) fun r6 => needB (okOs Go.Proofs.Try.prog [23] [] (Prod.fst r6)) <|
  callB (rec 12 [OV.flat (FV.val (PV.int .i64 (2 : Int))), OV.flat (FV.val (PV.agg [PV.int .i64 a3, PV.int .i64 a4, PV.str a5])), OV.flat (FV.val (PV.agg [PV.int .i64 a0, PV.int .i64 a1, PV.str a2]))]) fun r7 => needB (okOs Go.Proofs.Try.prog [23] [] (Prod.fst r7)) <|
  ifB (((PV.toI (List.headD (PV.cells (FV.pv (OV.fv (List.headD (Prod.fst r5) (OV.flat FV.gone))))) PV.undef)) == (PV.toI (List.headD (PV.cells (FV.pv (OV.fv (List.headD (Prod.fst r7) (OV.flat FV.gone))))) PV.undef))) && (((PV.toI (List.headD (List.tail (PV.cells (FV.pv (OV.fv (List.headD (Prod.fst r5) (OV.flat FV.gone)))))) PV.undef)) == (PV.toI (List.headD (List.tail (PV.cells (FV.pv (OV.fv (List.headD (Prod.fst r7) (OV.flat FV.gone)))))) PV.undef))) && (((PV.toS (List.headD (List.tail (List.tail (PV.cells (FV.pv (OV.fv (List.headD (Prod.fst r5) (OV.flat FV.gone))))))) PV.undef)) == (PV.toS (List.headD (List.tail (List.tail (PV.cells (FV.pv (OV.fv (List.headD (Prod.fst r7) (OV.flat FV.gone))))))) PV.undef))) && (true))))
  (callB (rec 12 [OV.flat (FV.val (PV.int .i64 (1 : Int))), OV.flat (FV.val (PV.agg [PV.int .i64 a3, PV.int .i64 a4, PV.str a5])), OV.flat (FV.val (PV.agg [PV.int .i64 a0, PV.int .i64 a1, PV.str a2]))]) fun r8 => needB (okOs Go.Proofs.Try.prog [23] [] (Prod.fst r8)) <|
  callB (rec 12 [OV.flat (FV.val (PV.int .i64 (2 : Int))), OV.flat (FV.val (PV.agg [PV.int .i64 (PV.toI (List.headD (PV.cells (FV.pv (OV.fv (List.headD (Prod.fst r5) (OV.flat FV.gone))))) PV.undef)), PV.int .i64 (PV.toI (List.headD (List.tail (PV.cells (FV.pv (OV.fv (List.headD (Prod.fst r5) (OV.flat FV.gone)))))) PV.undef)), PV.str (PV.toS (List.headD (List.tail (List.tail (PV.cells (FV.pv (OV.fv (List.headD (Prod.fst r5) (OV.flat FV.gone))))))) PV.undef))])), OV.flat (FV.val (PV.agg [PV.int .i64 a6, PV.int .i64 a7, PV.str a8]))]) fun r9 => needB (okOs Go.Proofs.Try.prog [23] [] (Prod.fst r9)) <|
  callB (rec 12 [OV.flat (FV.val (PV.int .i64 (2 : Int))), OV.flat (FV.val (PV.agg [PV.int .i64 a3, PV.int .i64 a4, PV.str a5])), OV.flat (FV.val (PV.agg [PV.int .i64 a6, PV.int .i64 a7, PV.str a8]))]) fun r10 => needB (okOs Go.Proofs.Try.prog [23] [] (Prod.fst r10)) <|
  callB (rec 12 [OV.flat (FV.val (PV.int .i64 (2 : Int))), OV.flat (FV.val (PV.agg [PV.int .i64 a0, PV.int .i64 a1, PV.str a2])), OV.flat (FV.val (PV.agg [PV.int .i64 (PV.toI (List.headD (PV.cells (FV.pv (OV.fv (List.headD (Prod.fst r10) (OV.flat FV.gone))))) PV.undef)), PV.int .i64 (PV.toI (List.headD (List.tail (PV.cells (FV.pv (OV.fv (List.headD (Prod.fst r10) (OV.flat FV.gone)))))) PV.undef)), PV.str (PV.toS (List.headD (List.tail (List.tail (PV.cells (FV.pv (OV.fv (List.headD (Prod.fst r10) (OV.flat FV.gone))))))) PV.undef))]))]) fun r11 => needB (okOs Go.Proofs.Try.prog [23] [] (Prod.fst r11)) <|
  ifB (((PV.toI (List.headD (PV.cells (FV.pv (OV.fv (List.headD (Prod.fst r9) (OV.flat FV.gone))))) PV.undef)) == (PV.toI (List.headD (PV.cells (FV.pv (OV.fv (List.headD (Prod.fst r11) (OV.flat FV.gone))))) PV.undef))) && (((PV.toI (List.headD (List.tail (PV.cells (FV.pv (OV.fv (List.headD (Prod.fst r9) (OV.flat FV.gone)))))) PV.undef)) == (PV.toI (List.headD (List.tail (PV.cells (FV.pv (OV.fv (List.headD (Prod.fst r11) (OV.flat FV.gone)))))) PV.undef))) && (((PV.toS (List.headD (List.tail (List.tail (PV.cells (FV.pv (OV.fv (List.headD (Prod.fst r9) (OV.flat FV.gone))))))) PV.undef)) == (PV.toS (List.headD (List.tail (List.tail (PV.cells (FV.pv (OV.fv (List.headD (Prod.fst r11) (OV.flat FV.gone))))))) PV.undef))) && (true))))
  (callB (rec 12 [OV.flat (FV.val (PV.int .i64 (1 : Int))), OV.flat (FV.val (PV.agg [PV.int .i64 (PV.toI (List.headD (PV.cells (FV.pv (OV.fv (List.headD (Prod.fst r6) (OV.flat FV.gone))))) PV.undef)), PV.int .i64 (PV.toI (List.headD (List.tail (PV.cells (FV.pv (OV.fv (List.headD (Prod.fst r6) (OV.flat FV.gone)))))) PV.undef)), PV.str (PV.toS (List.headD (List.tail (List.tail (PV.cells (FV.pv (OV.fv (List.headD (Prod.fst r6) (OV.flat FV.gone))))))) PV.undef))])), OV.flat (FV.val (PV.agg [PV.int .i64 a6, PV.int .i64 a7, PV.str a8]))]) fun r12 => needB (okOs Go.Proofs.Try.prog [23] [] (Prod.fst r12)) <|
  callB (rec 12 [OV.flat (FV.val (PV.int .i64 (1 : Int))), OV.flat (FV.val (PV.agg [PV.int .i64 a3, PV.int .i64 a4, PV.str a5])), OV.flat (FV.val (PV.agg [PV.int .i64 a6, PV.int .i64 a7, PV.str a8]))]) fun r13 => needB (okOs Go.Proofs.Try.prog [23] [] (Prod.fst r13)) <|
  callB (rec 12 [OV.flat (FV.val (PV.int .i64 (1 : Int))), OV.flat (FV.val (PV.agg [PV.int .i64 a0, PV.int .i64 a1, PV.str a2])), OV.flat (FV.val (PV.agg [PV.int .i64 (PV.toI (List.headD (PV.cells (FV.pv (OV.fv (List.headD (Prod.fst r13) (OV.flat FV.gone))))) PV.undef)), PV.int .i64 (PV.toI (List.headD (List.tail (PV.cells (FV.pv (OV.fv (List.headD (Prod.fst r13) (OV.flat FV.gone)))))) PV.undef)), PV.str (PV.toS (List.headD (List.tail (List.tail (PV.cells (FV.pv (OV.fv (List.headD (Prod.fst r13) (OV.flat FV.gone))))))) PV.undef))]))]) fun r14 => needB (okOs Go.Proofs.Try.prog [23] [] (Prod.fst r14)) <|
  callB (rec 13 [OV.flat (FV.val (PV.agg [PV.int .i64 (PV.toI (List.headD (PV.cells (FV.pv (OV.fv (List.headD (Prod.fst r5) (OV.flat FV.gone))))) PV.undef)), PV.int .i64 (PV.toI (List.headD (List.tail (PV.cells (FV.pv (OV.fv (List.headD (Prod.fst r5) (OV.flat FV.gone)))))) PV.undef)), PV.str (PV.toS (List.headD (List.tail (List.tail (PV.cells (FV.pv (OV.fv (List.headD (Prod.fst r5) (OV.flat FV.gone))))))) PV.undef))]))]) fun r15 => needB (okOs Go.Proofs.Try.prog [23] [] (Prod.fst r15)) <|
  callB (rec 13 [OV.flat (FV.val (PV.agg [PV.int .i64 a0, PV.int .i64 a1, PV.str a2]))]) fun r16 => needB (okOs Go.Proofs.Try.prog [23] [] (Prod.fst r16)) <|
  callB (rec 13 [OV.flat (FV.val (PV.agg [PV.int .i64 a3, PV.int .i64 a4, PV.str a5]))]) fun r17 => needB (okOs Go.Proofs.Try.prog [23] [] (Prod.fst r17)) <|
  callB (rec 12 [OV.flat (FV.val (PV.int .i64 (1 : Int))), OV.flat (FV.val (PV.agg [PV.int .i64 (PV.toI (List.headD (PV.cells (FV.pv (OV.fv (List.headD (Prod.fst r16) (OV.flat FV.gone))))) PV.undef)), PV.int .i64 (PV.toI (List.headD (List.tail (PV.cells (FV.pv (OV.fv (List.headD (Prod.fst r16) (OV.flat FV.gone)))))) PV.undef)), PV.str (PV.toS (List.headD (List.tail (List.tail (PV.cells (FV.pv (OV.fv (List.headD (Prod.fst r16) (OV.flat FV.gone))))))) PV.undef))])), OV.flat (FV.val (PV.agg [PV.int .i64 (PV.toI (List.headD (PV.cells (FV.pv (OV.fv (List.headD (Prod.fst r17) (OV.flat FV.gone))))) PV.undef)), PV.int .i64 (PV.toI (List.headD (List.tail (PV.cells (FV.pv (OV.fv (List.headD (Prod.fst r17) (OV.flat FV.gone)))))) PV.undef)), PV.str (PV.toS (List.headD (List.tail (List.tail (PV.cells (FV.pv (OV.fv (List.headD (Prod.fst r17) (OV.flat FV.gone))))))) PV.undef))]))]) fun r18 => needB (okOs Go.Proofs.Try.prog [23] [] (Prod.fst r18)) <|
  ifB (((PV.toI (List.headD (PV.cells (FV.pv (OV.fv (List.headD (Prod.fst r15) (OV.flat FV.gone))))) PV.undef)) == (PV.toI (List.headD (PV.cells (FV.pv (OV.fv (List.headD (Prod.fst r18) (OV.flat FV.gone))))) PV.undef))) && (((PV.toI (List.headD (List.tail (PV.cells (FV.pv (OV.fv (List.headD (Prod.fst r15) (OV.flat FV.gone)))))) PV.undef)) == (PV.toI (List.headD (List.tail (PV.cells (FV.pv (OV.fv (List.headD (Prod.fst r18) (OV.flat FV.gone)))))) PV.undef))) && (((PV.toS (List.headD (List.tail (List.tail (PV.cells (FV.pv (OV.fv (List.headD (Prod.fst r15) (OV.flat FV.gone))))))) PV.undef)) == (PV.toS (List.headD (List.tail (List.tail (PV.cells (FV.pv (OV.fv (List.headD (Prod.fst r18) (OV.flat FV.gone))))))) PV.undef))) && (true))))
  (callB (rec 13 [OV.flat (FV.val (PV.agg [PV.int .i64 (PV.toI (List.headD (PV.cells (FV.pv (OV.fv (List.headD (Prod.fst r6) (OV.flat FV.gone))))) PV.undef)), PV.int .i64 (PV.toI (List.headD (List.tail (PV.cells (FV.pv (OV.fv (List.headD (Prod.fst r6) (OV.flat FV.gone)))))) PV.undef)), PV.str (PV.toS (List.headD (List.tail (List.tail (PV.cells (FV.pv (OV.fv (List.headD (Prod.fst r6) (OV.flat FV.gone))))))) PV.undef))]))]) fun r19 => needB (okOs Go.Proofs.Try.prog [23] [] (Prod.fst r19)) <|
  callB (rec 13 [OV.flat (FV.val (PV.agg [PV.int .i64 a0, PV.int .i64 a1, PV.str a2]))]) fun r20 => needB (okOs Go.Proofs.Try.prog [23] [] (Prod.fst r20)) <|
  callB (rec 13 [OV.flat (FV.val (PV.agg [PV.int .i64 a3, PV.int .i64 a4, PV.str a5]))]) fun r21 => needB (okOs Go.Proofs.Try.prog [23] [] (Prod.fst r21)) <|
  callB (rec 12 [OV.flat (FV.val (PV.int .i64 (2 : Int))), OV.flat (FV.val (PV.agg [PV.int .i64 (PV.toI (List.headD (PV.cells (FV.pv (OV.fv (List.headD (Prod.fst r20) (OV.flat FV.gone))))) PV.undef)), PV.int .i64 (PV.toI (List.headD (List.tail (PV.cells (FV.pv (OV.fv (List.headD (Prod.fst r20) (OV.flat FV.gone)))))) PV.undef)), PV.str (PV.toS (List.headD (List.tail (List.tail (PV.cells (FV.pv (OV.fv (List.headD (Prod.fst r20) (OV.flat FV.gone))))))) PV.undef))])), OV.flat (FV.val (PV.agg [PV.int .i64 (PV.toI (List.headD (PV.cells (FV.pv (OV.fv (List.headD (Prod.fst r21) (OV.flat FV.gone))))) PV.undef)), PV.int .i64 (PV.toI (List.headD (List.tail (PV.cells (FV.pv (OV.fv (List.headD (Prod.fst r21) (OV.flat FV.gone)))))) PV.undef)), PV.str (PV.toS (List.headD (List.tail (List.tail (PV.cells (FV.pv (OV.fv (List.headD (Prod.fst r21) (OV.flat FV.gone))))))) PV.undef))]))]) fun r22 => needB (okOs Go.Proofs.Try.prog [23] [] (Prod.fst r22)) <|
  callB (rec 12 [OV.flat (FV.val (PV.int .i64 (2 : Int))), OV.flat (FV.val (PV.agg [PV.int .i64 a0, PV.int .i64 a1, PV.str a2])), OV.flat (FV.val (PV.agg [PV.int .i64 (PV.toI (List.headD (PV.cells (FV.pv (OV.fv (List.headD (Prod.fst r6) (OV.flat FV.gone))))) PV.undef)), PV.int .i64 (PV.toI (List.headD (List.tail (PV.cells (FV.pv (OV.fv (List.headD (Prod.fst r6) (OV.flat FV.gone)))))) PV.undef)), PV.str (PV.toS (List.headD (List.tail (List.tail (PV.cells (FV.pv (OV.fv (List.headD (Prod.fst r6) (OV.flat FV.gone))))))) PV.undef))]))]) fun r23 => needB (okOs Go.Proofs.Try.prog [23] [] (Prod.fst r23)) <|
  callB (rec 12 [OV.flat (FV.val (PV.int .i64 (2 : Int))), OV.flat (FV.val (PV.agg [PV.int .i64 a0, PV.int .i64 a1, PV.str a2])), OV.flat (FV.val (PV.agg [PV.int .i64 a0, PV.int .i64 a1, PV.str a2]))]) fun r24 => needB (okOs Go.Proofs.Try.prog [23] [] (Prod.fst r24)) <|
  ifB (((PV.toI (List.headD (PV.cells (FV.pv (OV.fv (List.headD (Prod.fst r23) (OV.flat FV.gone))))) PV.undef)) == (PV.toI (List.headD (PV.cells (FV.pv (OV.fv (List.headD (Prod.fst r24) (OV.flat FV.gone))))) PV.undef))) && (((PV.toI (List.headD (List.tail (PV.cells (FV.pv (OV.fv (List.headD (Prod.fst r23) (OV.flat FV.gone)))))) PV.undef)) == (PV.toI (List.headD (List.tail (PV.cells (FV.pv (OV.fv (List.headD (Prod.fst r24) (OV.flat FV.gone)))))) PV.undef))) && (((PV.toS (List.headD (List.tail (List.tail (PV.cells (FV.pv (OV.fv (List.headD (Prod.fst r23) (OV.flat FV.gone))))))) PV.undef)) == (PV.toS (List.headD (List.tail (List.tail (PV.cells (FV.pv (OV.fv (List.headD (Prod.fst r24) (OV.flat FV.gone))))))) PV.undef))) && (true))))
  (callB (rec 12 [OV.flat (FV.val (PV.int .i64 (1 : Int))), OV.flat (FV.val (PV.agg [PV.int .i64 a0, PV.int .i64 a1, PV.str a2])), OV.flat (FV.val (PV.agg [PV.int .i64 (PV.toI (List.headD (PV.cells (FV.pv (OV.fv (List.headD (Prod.fst r5) (OV.flat FV.gone))))) PV.undef)), PV.int .i64 (PV.toI (List.headD (List.tail (PV.cells (FV.pv (OV.fv (List.headD (Prod.fst r5) (OV.flat FV.gone)))))) PV.undef)), PV.str (PV.toS (List.headD (List.tail (List.tail (PV.cells (FV.pv (OV.fv (List.headD (Prod.fst r5) (OV.flat FV.gone))))))) PV.undef))]))]) fun r25 => needB (okOs Go.Proofs.Try.prog [23] [] (Prod.fst r25)) <|
  callB (rec 12 [OV.flat (FV.val (PV.int .i64 (1 : Int))), OV.flat (FV.val (PV.agg [PV.int .i64 a0, PV.int .i64 a1, PV.str a2])), OV.flat (FV.val (PV.agg [PV.int .i64 a0, PV.int .i64 a1, PV.str a2]))]) fun r26 => needB (okOs Go.Proofs.Try.prog [23] [] (Prod.fst r26)) <|
  ifB (PV.toB (FV.pv (OV.fv (List.headD (Prod.fst r1) (OV.flat FV.gone)))))
  (ifB (((PV.toI (List.headD (PV.cells (FV.pv (OV.fv (List.headD (Prod.fst r6) (OV.flat FV.gone))))) PV.undef)) == (PV.toI (List.headD (PV.cells (FV.pv (OV.fv (List.headD (Prod.fst r8) (OV.flat FV.gone))))) PV.undef))) && (((PV.toI (List.headD (List.tail (PV.cells (FV.pv (OV.fv (List.headD (Prod.fst r6) (OV.flat FV.gone)))))) PV.undef)) == (PV.toI (List.headD (List.tail (PV.cells (FV.pv (OV.fv (List.headD (Prod.fst r8) (OV.flat FV.gone)))))) PV.undef))) && (((PV.toS (List.headD (List.tail (List.tail (PV.cells (FV.pv (OV.fv (List.headD (Prod.fst r6) (OV.flat FV.gone))))))) PV.undef)) == (PV.toS (List.headD (List.tail (List.tail (PV.cells (FV.pv (OV.fv (List.headD (Prod.fst r8) (OV.flat FV.gone))))))) PV.undef))) && (true))))
  (ifB (((PV.toI (List.headD (PV.cells (FV.pv (OV.fv (List.headD (Prod.fst r12) (OV.flat FV.gone))))) PV.undef)) == (PV.toI (List.headD (PV.cells (FV.pv (OV.fv (List.headD (Prod.fst r14) (OV.flat FV.gone))))) PV.undef))) && (((PV.toI (List.headD (List.tail (PV.cells (FV.pv (OV.fv (List.headD (Prod.fst r12) (OV.flat FV.gone)))))) PV.undef)) == (PV.toI (List.headD (List.tail (PV.cells (FV.pv (OV.fv (List.headD (Prod.fst r14) (OV.flat FV.gone)))))) PV.undef))) && (((PV.toS (List.headD (List.tail (List.tail (PV.cells (FV.pv (OV.fv (List.headD (Prod.fst r12) (OV.flat FV.gone))))))) PV.undef)) == (PV.toS (List.headD (List.tail (List.tail (PV.cells (FV.pv (OV.fv (List.headD (Prod.fst r14) (OV.flat FV.gone))))))) PV.undef))) && (true))))
  (ifB (((PV.toI (List.headD (PV.cells (FV.pv (OV.fv (List.headD (Prod.fst r19) (OV.flat FV.gone))))) PV.undef)) == (PV.toI (List.headD (PV.cells (FV.pv (OV.fv (List.headD (Prod.fst r22) (OV.flat FV.gone))))) PV.undef))) && (((PV.toI (List.headD (List.tail (PV.cells (FV.pv (OV.fv (List.headD (Prod.fst r19) (OV.flat FV.gone)))))) PV.undef)) == (PV.toI (List.headD (List.tail (PV.cells (FV.pv (OV.fv (List.headD (Prod.fst r22) (OV.flat FV.gone)))))) PV.undef))) && (((PV.toS (List.headD (List.tail (List.tail (PV.cells (FV.pv (OV.fv (List.headD (Prod.fst r19) (OV.flat FV.gone))))))) PV.undef)) == (PV.toS (List.headD (List.tail (List.tail (PV.cells (FV.pv (OV.fv (List.headD (Prod.fst r22) (OV.flat FV.gone))))))) PV.undef))) && (true))))
  (some ([OV.flat (FV.val (PV.bool (((PV.toI (List.headD (PV.cells (FV.pv (OV.fv (List.headD (Prod.fst r25) (OV.flat FV.gone))))) PV.undef)) == (PV.toI (List.headD (PV.cells (FV.pv (OV.fv (List.headD (Prod.fst r26) (OV.flat FV.gone))))) PV.undef))) && (((PV.toI (List.headD (List.tail (PV.cells (FV.pv (OV.fv (List.headD (Prod.fst r25) (OV.flat FV.gone)))))) PV.undef)) == (PV.toI (List.headD (List.tail (PV.cells (FV.pv (OV.fv (List.headD (Prod.fst r26) (OV.flat FV.gone)))))) PV.undef))) && (((PV.toS (List.headD (List.tail (List.tail (PV.cells (FV.pv (OV.fv (List.headD (Prod.fst r25) (OV.flat FV.gone))))))) PV.undef)) == (PV.toS (List.headD (List.tail (List.tail (PV.cells (FV.pv (OV.fv (List.headD (Prod.fst r26) (OV.flat FV.gone))))))) PV.undef))) && (true))))))], []))
  (some ([OV.flat (FV.val (PV.bool false))], [])))
  (some ([OV.flat (FV.val (PV.bool false))], [])))
  (some ([OV.flat (FV.val (PV.bool false))], [])))
  (some ([OV.flat (FV.val (PV.bool false))], [])))
  (ifB (PV.toB (FV.pv (OV.fv (List.headD (Prod.fst r1) (OV.flat FV.gone)))))
  (ifB (((PV.toI (List.headD (PV.cells (FV.pv (OV.fv (List.headD (Prod.fst r6) (OV.flat FV.gone))))) PV.undef)) == (PV.toI (List.headD (PV.cells (FV.pv (OV.fv (List.headD (Prod.fst r8) (OV.flat FV.gone))))) PV.undef))) && (((PV.toI (List.headD (List.tail (PV.cells (FV.pv (OV.fv (List.headD (Prod.fst r6) (OV.flat FV.gone)))))) PV.undef)) == (PV.toI (List.headD (List.tail (PV.cells (FV.pv (OV.fv (List.headD (Prod.fst r8) (OV.flat FV.gone)))))) PV.undef))) && (((PV.toS (List.headD (List.tail (List.tail (PV.cells (FV.pv (OV.fv (List.headD (Prod.fst r6) (OV.flat FV.gone))))))) PV.undef)) == (PV.toS (List.headD (List.tail (List.tail (PV.cells (FV.pv (OV.fv (List.headD (Prod.fst r8) (OV.flat FV.gone))))))) PV.undef))) && (true))))
  (ifB (((PV.toI (List.headD (PV.cells (FV.pv (OV.fv (List.headD (Prod.fst r12) (OV.flat FV.gone))))) PV.undef)) == (PV.toI (List.headD (PV.cells (FV.pv (OV.fv (List.headD (Prod.fst r14) (OV.flat FV.gone))))) PV.undef))) && (((PV.toI (List.headD (List.tail (PV.cells (FV.pv (OV.fv (List.headD (Prod.fst r12) (OV.flat FV.gone)))))) PV.undef)) == (PV.toI (List.headD (List.tail (PV.cells (FV.pv (OV.fv (List.headD (Prod.fst r14) (OV.flat FV.gone)))))) PV.undef))) && (((PV.toS (List.headD (List.tail (List.tail (PV.cells (FV.pv (OV.fv (List.headD (Prod.fst r12) (OV.flat FV.gone))))))) PV.undef)) == (PV.toS (List.headD (List.tail (List.tail (PV.cells (FV.pv (OV.fv (List.headD (Prod.fst r14) (OV.flat FV.gone))))))) PV.undef))) && (true))))
  (ifB (((PV.toI (List.headD (PV.cells (FV.pv (OV.fv (List.headD (Prod.fst r19) (OV.flat FV.gone))))) PV.undef)) == (PV.toI (List.headD (PV.cells (FV.pv (OV.fv (List.headD (Prod.fst r22) (OV.flat FV.gone))))) PV.undef))) && (((PV.toI (List.headD (List.tail (PV.cells (FV.pv (OV.fv (List.headD (Prod.fst r19) (OV.flat FV.gone)))))) PV.undef)) == (PV.toI (List.headD (List.tail (PV.cells (FV.pv (OV.fv (List.headD (Prod.fst r22) (OV.flat FV.gone)))))) PV.undef))) && (((PV.toS (List.headD (List.tail (List.tail (PV.cells (FV.pv (OV.fv (List.headD (Prod.fst r19) (OV.flat FV.gone))))))) PV.undef)) == (PV.toS (List.headD (List.tail (List.tail (PV.cells (FV.pv (OV.fv (List.headD (Prod.fst r22) (OV.flat FV.gone))))))) PV.undef))) && (true))))
  (some ([OV.flat (FV.val (PV.bool false))], []))
  (some ([OV.flat (FV.val (PV.bool false))], [])))
  (some ([OV.flat (FV.val (PV.bool false))], [])))
  (some ([OV.flat (FV.val (PV.bool false))], [])))
  (some ([OV.flat (FV.val (PV.bool false))], []))))
  (callB (rec 12 [OV.flat (FV.val (PV.int .i64 (2 : Int))), OV.flat (FV.val (PV.agg [PV.int .i64 a0, PV.int .i64 a1, PV.str a2])), OV.flat (FV.val (PV.agg [PV.int .i64 (PV.toI (List.headD (PV.cells (FV.pv (OV.fv (List.headD (Prod.fst r6) (OV.flat FV.gone))))) PV.undef)), PV.int .i64 (PV.toI (List.headD (List.tail (PV.cells (FV.pv (OV.fv (List.headD (Prod.fst r6) (OV.flat FV.gone)))))) PV.undef)), PV.str (PV.toS (List.headD (List.tail (List.tail (PV.cells (FV.pv (OV.fv (List.headD (Prod.fst r6) (OV.flat FV.gone))))))) PV.undef))]))]) fun r27 => needB (okOs Go.Proofs.Try.prog [23] [] (Prod.fst r27)) <|
  callB (rec 12 [OV.flat (FV.val (PV.int .i64 (2 : Int))), OV.flat (FV.val (PV.agg [PV.int .i64 a0, PV.int .i64 a1, PV.str a2])), OV.flat (FV.val (PV.agg [PV.int .i64 a0, PV.int .i64 a1, PV.str a2]))]) fun r28 => needB (okOs Go.Proofs.Try.prog [23] [] (Prod.fst r28)) <|
  ifB (((PV.toI (List.headD (PV.cells (FV.pv (OV.fv (List.headD (Prod.fst r27) (OV.flat FV.gone))))) PV.undef)) == (PV.toI (List.headD (PV.cells (FV.pv (OV.fv (List.headD (Prod.fst r28) (OV.flat FV.gone))))) PV.undef))) && (((PV.toI (List.headD (List.tail (PV.cells (FV.pv (OV.fv (List.headD (Prod.fst r27) (OV.flat FV.gone)))))) PV.undef)) == (PV.toI (List.headD (List.tail (PV.cells (FV.pv (OV.fv (List.headD (Prod.fst r28) (OV.flat FV.gone)))))) PV.undef))) && (((PV.toS (List.headD (List.tail (List.tail (PV.cells (FV.pv (OV.fv (List.headD (Prod.fst r27) (OV.flat FV.gone))))))) PV.undef)) == (PV.toS (List.headD (List.tail (List.tail (PV.cells (FV.pv (OV.fv (List.headD (Prod.fst r28) (OV.flat FV.gone))))))) PV.undef))) && (true))))
  (callB (rec 12 [OV.flat (FV.val (PV.int .i64 (1 : Int))), OV.flat (FV.val (PV.agg [PV.int .i64 a0, PV.int .i64 a1, PV.str a2])), OV.flat (FV.val (PV.agg [PV.int .i64 (PV.toI (List.headD (PV.cells (FV.pv (OV.fv (List.headD (Prod.fst r5) (OV.flat FV.gone))))) PV.undef)), PV.int .i64 (PV.toI (List.headD (List.tail (PV.cells (FV.pv (OV.fv (List.headD (Prod.fst r5) (OV.flat FV.gone)))))) PV.undef)), PV.str (PV.toS (List.headD (List.tail (List.tail (PV.cells (FV.pv (OV.fv (List.headD (Prod.fst r5) (OV.flat FV.gone))))))) PV.undef))]))]) fun r29 => needB (okOs Go.Proofs.Try.prog [23] [] (Prod.fst r29)) <|
  callB (rec 12 [OV.flat (FV.val (PV.int .i64 (1 : Int))), OV.flat (FV.val (PV.agg [PV.int .i64 a0, PV.int .i64 a1, PV.str a2])), OV.flat (FV.val (PV.agg [PV.int .i64 a0, PV.int .i64 a1, PV.str a2]))]) fun r30 => needB (okOs Go.Proofs.Try.prog [23] [] (Prod.fst r30)) <|
  ifB (PV.toB (FV.pv (OV.fv (List.headD (Prod.fst r1) (OV.flat FV.gone)))))
  (ifB (((PV.toI (List.headD (PV.cells (FV.pv (OV.fv (List.headD (Prod.fst r6) (OV.flat FV.gone))))) PV.undef)) == (PV.toI (List.headD (PV.cells (FV.pv (OV.fv (List.headD (Prod.fst r8) (OV.flat FV.gone))))) PV.undef))) && (((PV.toI (List.headD (List.tail (PV.cells (FV.pv (OV.fv (List.headD (Prod.fst r6) (OV.flat FV.gone)))))) PV.undef)) == (PV.toI (List.headD (List.tail (PV.cells (FV.pv (OV.fv (List.headD (Prod.fst r8) (OV.flat FV.gone)))))) PV.undef))) && (((PV.toS (List.headD (List.tail (List.tail (PV.cells (FV.pv (OV.fv (List.headD (Prod.fst r6) (OV.flat FV.gone))))))) PV.undef)) == (PV.toS (List.headD (List.tail (List.tail (PV.cells (FV.pv (OV.fv (List.headD (Prod.fst r8) (OV.flat FV.gone))))))) PV.undef))) && (true))))
  (ifB (((PV.toI (List.headD (PV.cells (FV.pv (OV.fv (List.headD (Prod.fst r12) (OV.flat FV.gone))))) PV.undef)) == (PV.toI (List.headD (PV.cells (FV.pv (OV.fv (List.headD (Prod.fst r14) (OV.flat FV.gone))))) PV.undef))) && (((PV.toI (List.headD (List.tail (PV.cells (FV.pv (OV.fv (List.headD (Prod.fst r12) (OV.flat FV.gone)))))) PV.undef)) == (PV.toI (List.headD (List.tail (PV.cells (FV.pv (OV.fv (List.headD (Prod.fst r14) (OV.flat FV.gone)))))) PV.undef))) && (((PV.toS (List.headD (List.tail (List.tail (PV.cells (FV.pv (OV.fv (List.headD (Prod.fst r12) (OV.flat FV.gone))))))) PV.undef)) == (PV.toS (List.headD (List.tail (List.tail (PV.cells (FV.pv (OV.fv (List.headD (Prod.fst r14) (OV.flat FV.gone))))))) PV.undef))) && (true))))
  (some ([OV.flat (FV.val (PV.bool false))], []))
  (some ([OV.flat (FV.val (PV.bool false))], [])))
  (some ([OV.flat (FV.val (PV.bool false))], [])))
  (some ([OV.flat (FV.val (PV.bool false))], [])))
  (ifB (PV.toB (FV.pv (OV.fv (List.headD (Prod.fst r1) (OV.flat FV.gone)))))
  (ifB (((PV.toI (List.headD (PV.cells (FV.pv (OV.fv (List.headD (Prod.fst r6) (OV.flat FV.gone))))) PV.undef)) == (PV.toI (List.headD (PV.cells (FV.pv (OV.fv (List.headD (Prod.fst r8) (OV.flat FV.gone))))) PV.undef))) && (((PV.toI (List.headD (List.tail (PV.cells (FV.pv (OV.fv (List.headD (Prod.fst r6) (OV.flat FV.gone)))))) PV.undef)) == (PV.toI (List.headD (List.tail (PV.cells (FV.pv (OV.fv (List.headD (Prod.fst r8) (OV.flat FV.gone)))))) PV.undef))) && (((PV.toS (List.headD (List.tail (List.tail (PV.cells (FV.pv (OV.fv (List.headD (Prod.fst r6) (OV.flat FV.gone))))))) PV.undef)) == (PV.toS (List.headD (List.tail (List.tail (PV.cells (FV.pv (OV.fv (List.headD (Prod.fst r8) (OV.flat FV.gone))))))) PV.undef))) && (true))))
  (ifB (((PV.toI (List.headD (PV.cells (FV.pv (OV.fv (List.headD (Prod.fst r12) (OV.flat FV.gone))))) PV.undef)) == (PV.toI (List.headD (PV.cells (FV.pv (OV.fv (List.headD (Prod.fst r14) (OV.flat FV.gone))))) PV.undef))) && (((PV.toI (List.headD (List.tail (PV.cells (FV.pv (OV.fv (List.headD (Prod.fst r12) (OV.flat FV.gone)))))) PV.undef)) == (PV.toI (List.headD (List.tail (PV.cells (FV.pv (OV.fv (List.headD (Prod.fst r14) (OV.flat FV.gone)))))) PV.undef))) && (((PV.toS (List.headD (List.tail (List.tail (PV.cells (FV.pv (OV.fv (List.headD (Prod.fst r12) (OV.flat FV.gone))))))) PV.undef)) == (PV.toS (List.headD (List.tail (List.tail (PV.cells (FV.pv (OV.fv (List.headD (Prod.fst r14) (OV.flat FV.gone))))))) PV.undef))) && (true))))
  (some ([OV.flat (FV.val (PV.bool false))], []))
  (some ([OV.flat (FV.val (PV.bool false))], [])))
  (some ([OV.flat (FV.val (PV.bool false))], [])))
  (some ([OV.flat (FV.val (PV.bool false))], [])))))
  (callB (rec 13 [OV.flat (FV.val (PV.agg [PV.int .i64 (PV.toI (List.headD (PV.cells (FV.pv (OV.fv (List.headD (Prod.fst r5) (OV.flat FV.gone))))) PV.undef)), PV.int .i64 (PV.toI (List.headD (List.tail (PV.cells (FV.pv (OV.fv (List.headD (Prod.fst r5) (OV.flat FV.gone)))))) PV.undef)), PV.str (PV.toS (List.headD (List.tail (List.tail (PV.cells (FV.pv (OV.fv (List.headD (Prod.fst r5) (OV.flat FV.gone))))))) PV.undef))]))]) fun r31 => needB (okOs Go.Proofs.Try.prog [23] [] (Prod.fst r31)) <|
  callB (rec 13 [OV.flat (FV.val (PV.agg [PV.int .i64 a0, PV.int .i64 a1, PV.str a2]))]) fun r32 => needB (okOs Go.Proofs.Try.prog [23] [] (Prod.fst r32)) <|
  callB (rec 13 [OV.flat (FV.val (PV.agg [PV.int .i64 a3, PV.int .i64 a4, PV.str a5]))]) fun r33 => needB (okOs Go.Proofs.Try.prog [23] [] (Prod.fst r33)) <|
  callB (rec 12 [OV.flat (FV.val (PV.int .i64 (1 : Int))), OV.flat (FV.val (PV.agg [PV.int .i64 (PV.toI (List.headD (PV.cells (FV.pv (OV.fv (List.headD (Prod.fst r32) (OV.flat FV.gone))))) PV.undef)), PV.int .i64 (PV.toI (List.headD (List.tail (PV.cells (FV.pv (OV.fv (List.headD (Prod.fst r32) (OV.flat FV.gone)))))) PV.undef)), PV.str (PV.toS (List.headD (List.tail (List.tail (PV.cells (FV.pv (OV.fv (List.headD (Prod.fst r32) (OV.flat FV.gone))))))) PV.undef))])), OV.flat (FV.val (PV.agg [PV.int .i64 (PV.toI (List.headD (PV.cells (FV.pv (OV.fv (List.headD (Prod.fst r33) (OV.flat FV.gone))))) PV.undef)), PV.int .i64 (PV.toI (List.headD (List.tail (PV.cells (FV.pv (OV.fv (List.headD (Prod.fst r33) (OV.flat FV.gone)))))) PV.undef)), PV.str (PV.toS (List.headD (List.tail (List.tail (PV.cells (FV.pv (OV.fv (List.headD (Prod.fst r33) (OV.flat FV.gone))))))) PV.undef))]))]) fun r34 => needB (okOs Go.Proofs.Try.prog [23] [] (Prod.fst r34)) <|
  ifB (((PV.toI (List.headD (PV.cells (FV.pv (OV.fv (List.headD (Prod.fst r31) (OV.flat FV.gone))))) PV.undef)) == (PV.toI (List.headD (PV.cells (FV.pv (OV.fv (List.headD (Prod.fst r34) (OV.flat FV.gone))))) PV.undef))) && (((PV.toI (List.headD (List.tail (PV.cells (FV.pv (OV.fv (List.headD (Prod.fst r31) (OV.flat FV.gone)))))) PV.undef)) == (PV.toI (List.headD (List.tail (PV.cells (FV.pv (OV.fv (List.headD (Prod.fst r34) (OV.flat FV.gone)))))) PV.undef))) && (((PV.toS (List.headD (List.tail (List.tail (PV.cells (FV.pv (OV.fv (List.headD (Prod.fst r31) (OV.flat FV.gone))))))) PV.undef)) == (PV.toS (List.headD (List.tail (List.tail (PV.cells (FV.pv (OV.fv (List.headD (Prod.fst r34) (OV.flat FV.gone))))))) PV.undef))) && (true))))
  (callB (rec 13 [OV.flat (FV.val (PV.agg [PV.int .i64 (PV.toI (List.headD (PV.cells (FV.pv (OV.fv (List.headD (Prod.fst r6) (OV.flat FV.gone))))) PV.undef)), PV.int .i64 (PV.toI (List.headD (List.tail (PV.cells (FV.pv (OV.fv (List.headD (Prod.fst r6) (OV.flat FV.gone)))))) PV.undef)), PV.str (PV.toS (List.headD (List.tail (List.tail (PV.cells (FV.pv (OV.fv (List.headD (Prod.fst r6) (OV.flat FV.gone))))))) PV.undef))]))]) fun r35 => needB (okOs Go.Proofs.Try.prog [23] [] (Prod.fst r35)) <|
  callB (rec 13 [OV.flat (FV.val (PV.agg [PV.int .i64 a0, PV.int .i64 a1, PV.str a2]))]) fun r36 => needB (okOs Go.Proofs.Try.prog [23] [] (Prod.fst r36)) <|
  callB (rec 13 [OV.flat (FV.val (PV.agg [PV.int .i64 a3, PV.int .i64 a4, PV.str a5]))]) fun r37 => needB (okOs Go.Proofs.Try.prog [23] [] (Prod.fst r37)) <|
  callB (rec 12 [OV.flat (FV.val (PV.int .i64 (2 : Int))), OV.flat (FV.val (PV.agg [PV.int .i64 (PV.toI (List.headD (PV.cells (FV.pv (OV.fv (List.headD (Prod.fst r36) (OV.flat FV.gone))))) PV.undef)), PV.int .i64 (PV.toI (List.headD (List.tail (PV.cells (FV.pv (OV.fv (List.headD (Prod.fst r36) (OV.flat FV.gone)))))) PV.undef)), PV.str (PV.toS (List.headD (List.tail (List.tail (PV.cells (FV.pv (OV.fv (List.headD (Prod.fst r36) (OV.flat FV.gone))))))) PV.undef))])), OV.flat (FV.val (PV.agg [PV.int .i64 (PV.toI (List.headD (PV.cells (FV.pv (OV.fv (List.headD (Prod.fst r37) (OV.flat FV.gone))))) PV.undef)), PV.int .i64 (PV.toI (List.headD (List.tail (PV.cells (FV.pv (OV.fv (List.headD (Prod.fst r37) (OV.flat FV.gone)))))) PV.undef)), PV.str (PV.toS (List.headD (List.tail (List.tail (PV.cells (FV.pv (OV.fv (List.headD (Prod.fst r37) (OV.flat FV.gone))))))) PV.undef))]))]) fun r38 => needB (okOs Go.Proofs.Try.prog [23] [] (Prod.fst r38)) <|
  callB (rec 12 [OV.flat (FV.val (PV.int .i64 (2 : Int))), OV.flat (FV.val (PV.agg [PV.int .i64 a0, PV.int .i64 a1, PV.str a2])), OV.flat (FV.val (PV.agg [PV.int .i64 (PV.toI (List.headD (PV.cells (FV.pv (OV.fv (List.headD (Prod.fst r6) (OV.flat FV.gone))))) PV.undef)), PV.int .i64 (PV.toI (List.headD (List.tail (PV.cells (FV.pv (OV.fv (List.headD (Prod.fst r6) (OV.flat FV.gone)))))) PV.undef)), PV.str (PV.toS (List.headD (List.tail (List.tail (PV.cells (FV.pv (OV.fv (List.headD (Prod.fst r6) (OV.flat FV.gone))))))) PV.undef))]))]) fun r39 => needB (okOs Go.Proofs.Try.prog [23] [] (Prod.fst r39)) <|
  callB (rec 12 [OV.flat (FV.val (PV.int .i64 (2 : Int))), OV.flat (FV.val (PV.agg [PV.int .i64 a0, PV.int .i64 a1, PV.str a2])), OV.flat (FV.val (PV.agg [PV.int .i64 a0, PV.int .i64 a1, PV.str a2]))]) fun r40 => needB (okOs Go.Proofs.Try.prog [23] [] (Prod.fst r40)) <|
  ifB (((PV.toI (List.headD (PV.cells (FV.pv (OV.fv (List.headD (Prod.fst r39) (OV.flat FV.gone))))) PV.undef)) == (PV.toI (List.headD (PV.cells (FV.pv (OV.fv (List.headD (Prod.fst r40) (OV.flat FV.gone))))) PV.undef))) && (((PV.toI (List.headD (List.tail (PV.cells (FV.pv (OV.fv (List.headD (Prod.fst r39) (OV.flat FV.gone)))))) PV.undef)) == (PV.toI (List.headD (List.tail (PV.cells (FV.pv (OV.fv (List.headD (Prod.fst r40) (OV.flat FV.gone)))))) PV.undef))) && (((PV.toS (List.headD (List.tail (List.tail (PV.cells (FV.pv (OV.fv (List.headD (Prod.fst r39) (OV.flat FV.gone))))))) PV.undef)) == (PV.toS (List.headD (List.tail (List.tail (PV.cells (FV.pv (OV.fv (List.headD (Prod.fst r40) (OV.flat FV.gone))))))) PV.undef))) && (true))))
  (callB (rec 12 [OV.flat (FV.val (PV.int .i64 (1 : Int))), OV.flat (FV.val (PV.agg [PV.int .i64 a0, PV.int .i64 a1, PV.str a2])), OV.flat (FV.val (PV.agg [PV.int .i64 (PV.toI (List.headD (PV.cells (FV.pv (OV.fv (List.headD (Prod.fst r5) (OV.flat FV.gone))))) PV.undef)), PV.int .i64 (PV.toI (List.headD (List.tail (PV.cells (FV.pv (OV.fv (List.headD (Prod.fst r5) (OV.flat FV.gone)))))) PV.undef)), PV.str (PV.toS (List.headD (List.tail (List.tail (PV.cells (FV.pv (OV.fv (List.headD (Prod.fst r5) (OV.flat FV.gone))))))) PV.undef))]))]) fun r41 => needB (okOs Go.Proofs.Try.prog [23] [] (Prod.fst r41)) <|
  callB (rec 12 [OV.flat (FV.val (PV.int .i64 (1 : Int))), OV.flat (FV.val (PV.agg [PV.int .i64 a0, PV.int .i64 a1, PV.str a2])), OV.flat (FV.val (PV.agg [PV.int .i64 a0, PV.int .i64 a1, PV.str a2]))]) fun r42 => needB (okOs Go.Proofs.Try.prog [23] [] (Prod.fst r42)) <|
  ifB (PV.toB (FV.pv (OV.fv (List.headD (Prod.fst r1) (OV.flat FV.gone)))))
  (ifB (((PV.toI (List.headD (PV.cells (FV.pv (OV.fv (List.headD (Prod.fst r6) (OV.flat FV.gone))))) PV.undef)) == (PV.toI (List.headD (PV.cells (FV.pv (OV.fv (List.headD (Prod.fst r8) (OV.flat FV.gone))))) PV.undef))) && (((PV.toI (List.headD (List.tail (PV.cells (FV.pv (OV.fv (List.headD (Prod.fst r6) (OV.flat FV.gone)))))) PV.undef)) == (PV.toI (List.headD (List.tail (PV.cells (FV.pv (OV.fv (List.headD (Prod.fst r8) (OV.flat FV.gone)))))) PV.undef))) && (((PV.toS (List.headD (List.tail (List.tail (PV.cells (FV.pv (OV.fv (List.headD (Prod.fst r6) (OV.flat FV.gone))))))) PV.undef)) == (PV.toS (List.headD (List.tail (List.tail (PV.cells (FV.pv (OV.fv (List.headD (Prod.fst r8) (OV.flat FV.gone))))))) PV.undef))) && (true))))
  (some ([OV.flat (FV.val (PV.bool false))], []))
  (some ([OV.flat (FV.val (PV.bool false))], [])))
  (some ([OV.flat (FV.val (PV.bool false))], [])))
  (ifB (PV.toB (FV.pv (OV.fv (List.headD (Prod.fst r1) (OV.flat FV.gone)))))
  (ifB (((PV.toI (List.headD (PV.cells (FV.pv (OV.fv (List.headD (Prod.fst r6) (OV.flat FV.gone))))) PV.undef)) == (PV.toI (List.headD (PV.cells (FV.pv (OV.fv (List.headD (Prod.fst r8) (OV.flat FV.gone))))) PV.undef))) && (((PV.toI (List.headD (List.tail (PV.cells (FV.pv (OV.fv (List.headD (Prod.fst r6) (OV.flat FV.gone)))))) PV.undef)) == (PV.toI (List.headD (List.tail (PV.cells (FV.pv (OV.fv (List.headD (Prod.fst r8) (OV.flat FV.gone)))))) PV.undef))) && (((PV.toS (List.headD (List.tail (List.tail (PV.cells (FV.pv (OV.fv (List.headD (Prod.fst r6) (OV.flat FV.gone))))))) PV.undef)) == (PV.toS (List.headD (List.tail (List.tail (PV.cells (FV.pv (OV.fv (List.headD (Prod.fst r8) (OV.flat FV.gone))))))) PV.undef))) && (true))))
  (some ([OV.flat (FV.val (PV.bool false))], []))
  (some ([OV.flat (FV.val (PV.bool false))], [])))
  (some ([OV.flat (FV.val (PV.bool false))], []))))
  (callB (rec 12 [OV.flat (FV.val (PV.int .i64 (2 : Int))), OV.flat (FV.val (PV.agg [PV.int .i64 a0, PV.int .i64 a1, PV.str a2])), OV.flat (FV.val (PV.agg [PV.int .i64 (PV.toI (List.headD (PV.cells (FV.pv (OV.fv (List.headD (Prod.fst r6) (OV.flat FV.gone))))) PV.undef)), PV.int .i64 (PV.toI (List.headD (List.tail (PV.cells (FV.pv (OV.fv (List.headD (Prod.fst r6) (OV.flat FV.gone)))))) PV.undef)), PV.str (PV.toS (List.headD (List.tail (List.tail (PV.cells (FV.pv (OV.fv (List.headD (Prod.fst r6) (OV.flat FV.gone))))))) PV.undef))]))]) fun r43 => needB (okOs Go.Proofs.Try.prog [23] [] (Prod.fst r43)) <|
  callB (rec 12 [OV.flat (FV.val (PV.int .i64 (2 : Int))), OV.flat (FV.val (PV.agg [PV.int .i64 a0, PV.int .i64 a1, PV.str a2])), OV.flat (FV.val (PV.agg [PV.int .i64 a0, PV.int .i64 a1, PV.str a2]))]) fun r44 => needB (okOs Go.Proofs.Try.prog [23] [] (Prod.fst r44)) <|
  ifB (((PV.toI (List.headD (PV.cells (FV.pv (OV.fv (List.headD (Prod.fst r43) (OV.flat FV.gone))))) PV.undef)) == (PV.toI (List.headD (PV.cells (FV.pv (OV.fv (List.headD (Prod.fst r44) (OV.flat FV.gone))))) PV.undef))) && (((PV.toI (List.headD (List.tail (PV.cells (FV.pv (OV.fv (List.headD (Prod.fst r43) (OV.flat FV.gone)))))) PV.undef)) == (PV.toI (List.headD (List.tail (PV.cells (FV.pv (OV.fv (List.headD (Prod.fst r44) (OV.flat FV.gone)))))) PV.undef))) && (((PV.toS (List.headD (List.tail (List.tail (PV.cells (FV.pv (OV.fv (List.headD (Prod.fst r43) (OV.flat FV.gone))))))) PV.undef)) == (PV.toS (List.headD (List.tail (List.tail (PV.cells (FV.pv (OV.fv (List.headD (Prod.fst r44) (OV.flat FV.gone))))))) PV.undef))) && (true))))
  (callB (rec 12 [OV.flat (FV.val (PV.int .i64 (1 : Int))), OV.flat (FV.val (PV.agg [PV.int .i64 a0, PV.int .i64 a1, PV.str a2])), OV.flat (FV.val (PV.agg [PV.int .i64 (PV.toI (List.headD (PV.cells (FV.pv (OV.fv (List.headD (Prod.fst r5) (OV.flat FV.gone))))) PV.undef)), PV.int .i64 (PV.toI (List.headD (List.tail (PV.cells (FV.pv (OV.fv (List.headD (Prod.fst r5) (OV.flat FV.gone)))))) PV.undef)), PV.str (PV.toS (List.headD (List.tail (List.tail (PV.cells (FV.pv (OV.fv (List.headD (Prod.fst r5) (OV.flat FV.gone))))))) PV.undef))]))]) fun r45 => needB (okOs Go.Proofs.Try.prog [23] [] (Prod.fst r45)) <|
  callB (rec 12 [OV.flat (FV.val (PV.int .i64 (1 : Int))), OV.flat (FV.val (PV.agg [PV.int .i64 a0, PV.int .i64 a1, PV.str a2])), OV.flat (FV.val (PV.agg [PV.int .i64 a0, PV.int .i64 a1, PV.str a2]))]) fun r46 => needB (okOs Go.Proofs.Try.prog [23] [] (Prod.fst r46)) <|
  ifB (PV.toB (FV.pv (OV.fv (List.headD (Prod.fst r1) (OV.flat FV.gone)))))
  (ifB (((PV.toI (List.headD (PV.cells (FV.pv (OV.fv (List.headD (Prod.fst r6) (OV.flat FV.gone))))) PV.undef)) == (PV.toI (List.headD (PV.cells (FV.pv (OV.fv (List.headD (Prod.fst r8) (OV.flat FV.gone))))) PV.undef))) && (((PV.toI (List.headD (List.tail (PV.cells (FV.pv (OV.fv (List.headD (Prod.fst r6) (OV.flat FV.gone)))))) PV.undef)) == (PV.toI (List.headD (List.tail (PV.cells (FV.pv (OV.fv (List.headD (Prod.fst r8) (OV.flat FV.gone)))))) PV.undef))) && (((PV.toS (List.headD (List.tail (List.tail (PV.cells (FV.pv (OV.fv (List.headD (Prod.fst r6) (OV.flat FV.gone))))))) PV.undef)) == (PV.toS (List.headD (List.tail (List.tail (PV.cells (FV.pv (OV.fv (List.headD (Prod.fst r8) (OV.flat FV.gone))))))) PV.undef))) && (true))))
  (some ([OV.flat (FV.val (PV.bool false))], []))
  (some ([OV.flat (FV.val (PV.bool false))], [])))
  (some ([OV.flat (FV.val (PV.bool false))], [])))
  (ifB (PV.toB (FV.pv (OV.fv (List.headD (Prod.fst r1) (OV.flat FV.gone)))))
  (ifB (((PV.toI (List.headD (PV.cells (FV.pv (OV.fv (List.headD (Prod.fst r6) (OV.flat FV.gone))))) PV.undef)) == (PV.toI (List.headD (PV.cells (FV.pv (OV.fv (List.headD (Prod.fst r8) (OV.flat FV.gone))))) PV.undef))) && (((PV.toI (List.headD (List.tail (PV.cells (FV.pv (OV.fv (List.headD (Prod.fst r6) (OV.flat FV.gone)))))) PV.undef)) == (PV.toI (List.headD (List.tail (PV.cells (FV.pv (OV.fv (List.headD (Prod.fst r8) (OV.flat FV.gone)))))) PV.undef))) && (((PV.toS (List.headD (List.tail (List.tail (PV.cells (FV.pv (OV.fv (List.headD (Prod.fst r6) (OV.flat FV.gone))))))) PV.undef)) == (PV.toS (List.headD (List.tail (List.tail (PV.cells (FV.pv (OV.fv (List.headD (Prod.fst r8) (OV.flat FV.gone))))))) PV.undef))) && (true))))
  (some ([OV.flat (FV.val (PV.bool false))], []))
  (some ([OV.flat (FV.val (PV.bool false))], [])))
  (some ([OV.flat (FV.val (PV.bool false))], []))))))
  (callB (rec 12 [OV.flat (FV.val (PV.int .i64 (2 : Int))), OV.flat (FV.val (PV.agg [PV.int .i64 (PV.toI (List.headD (PV.cells (FV.pv (OV.fv (List.headD (Prod.fst r5) (OV.flat FV.gone))))) PV.undef)), PV.int .i64 (PV.toI (List.headD (List.tail (PV.cells (FV.pv (OV.fv (List.headD (Prod.fst r5) (OV.flat FV.gone)))))) PV.undef)), PV.str (PV.toS (List.headD (List.tail (List.tail (PV.cells (FV.pv (OV.fv (List.headD (Prod.fst r5) (OV.flat FV.gone))))))) PV.undef))])), OV.flat (FV.val (PV.agg [PV.int .i64 a6, PV.int .i64 a7, PV.str a8]))]) fun r47 => needB (okOs Go.Proofs.Try.prog [23] [] (Prod.fst r47)) <|
  callB (rec 12 [OV.flat (FV.val (PV.int .i64 (2 : Int))), OV.flat (FV.val (PV.agg [PV.int .i64 a3, PV.int .i64 a4, PV.str a5])), OV.flat (FV.val (PV.agg [PV.int .i64 a6, PV.int .i64 a7, PV.str a8]))]) fun r48 => needB (okOs Go.Proofs.Try.prog [23] [] (Prod.fst r48)) <|
  callB (rec 12 [OV.flat (FV.val (PV.int .i64 (2 : Int))), OV.flat (FV.val (PV.agg [PV.int .i64 a0, PV.int .i64 a1, PV.str a2])), OV.flat (FV.val (PV.agg [PV.int .i64 (PV.toI (List.headD (PV.cells (FV.pv (OV.fv (List.headD (Prod.fst r48) (OV.flat FV.gone))))) PV.undef)), PV.int .i64 (PV.toI (List.headD (List.tail (PV.cells (FV.pv (OV.fv (List.headD (Prod.fst r48) (OV.flat FV.gone)))))) PV.undef)), PV.str (PV.toS (List.headD (List.tail (List.tail (PV.cells (FV.pv (OV.fv (List.headD (Prod.fst r48) (OV.flat FV.gone))))))) PV.undef))]))]) fun r49 => needB (okOs Go.Proofs.Try.prog [23] [] (Prod.fst r49)) <|
  ifB (((PV.toI (List.headD (PV.cells (FV.pv (OV.fv (List.headD (Prod.fst r47) (OV.flat FV.gone))))) PV.undef)) == (PV.toI (List.headD (PV.cells (FV.pv (OV.fv (List.headD (Prod.fst r49) (OV.flat FV.gone))))) PV.undef))) && (((PV.toI (List.headD (List.tail (PV.cells (FV.pv (OV.fv (List.headD (Prod.fst r47) (OV.flat FV.gone)))))) PV.undef)) == (PV.toI (List.headD (List.tail (PV.cells (FV.pv (OV.fv (List.headD (Prod.fst r49) (OV.flat FV.gone)))))) PV.undef))) && (((PV.toS (List.headD (List.tail (List.tail (PV.cells (FV.pv (OV.fv (List.headD (Prod.fst r47) (OV.flat FV.gone))))))) PV.undef)) == (PV.toS (List.headD (List.tail (List.tail (PV.cells (FV.pv (OV.fv (List.headD (Prod.fst r49) (OV.flat FV.gone))))))) PV.undef))) && (true))))
  (callB (rec 12 [OV.flat (FV.val (PV.int .i64 (1 : Int))), OV.flat (FV.val (PV.agg [PV.int .i64 (PV.toI (List.headD (PV.cells (FV.pv (OV.fv (List.headD (Prod.fst r6) (OV.flat FV.gone))))) PV.undef)), PV.int .i64 (PV.toI (List.headD (List.tail (PV.cells (FV.pv (OV.fv (List.headD (Prod.fst r6) (OV.flat FV.gone)))))) PV.undef)), PV.str (PV.toS (List.headD (List.tail (List.tail (PV.cells (FV.pv (OV.fv (List.headD (Prod.fst r6) (OV.flat FV.gone))))))) PV.undef))])), OV.flat (FV.val (PV.agg [PV.int .i64 a6, PV.int .i64 a7, PV.str a8]))]) fun r50 => needB (okOs Go.Proofs.Try.prog [23] [] (Prod.fst r50)) <|
  callB (rec 12 [OV.flat (FV.val (PV.int .i64 (1 : Int))), OV.flat (FV.val (PV.agg [PV.int .i64 a3, PV.int .i64 a4, PV.str a5])), OV.flat (FV.val (PV.agg [PV.int .i64 a6, PV.int .i64 a7, PV.str a8]))]) fun r51 => needB (okOs Go.Proofs.Try.prog [23] [] (Prod.fst r51)) <|
  callB (rec 12 [OV.flat (FV.val (PV.int .i64 (1 : Int))), OV.flat (FV.val (PV.agg [PV.int .i64 a0, PV.int .i64 a1, PV.str a2])), OV.flat (FV.val (PV.agg [PV.int .i64 (PV.toI (List.headD (PV.cells (FV.pv (OV.fv (List.headD (Prod.fst r51) (OV.flat FV.gone))))) PV.undef)), PV.int .i64 (PV.toI (List.headD (List.tail (PV.cells (FV.pv (OV.fv (List.headD (Prod.fst r51) (OV.flat FV.gone)))))) PV.undef)), PV.str (PV.toS (List.headD (List.tail (List.tail (PV.cells (FV.pv (OV.fv (List.headD (Prod.fst r51) (OV.flat FV.gone))))))) PV.undef))]))]) fun r52 => needB (okOs Go.Proofs.Try.prog [23] [] (Prod.fst r52)) <|
  callB (rec 13 [OV.flat (FV.val (PV.agg [PV.int .i64 (PV.toI (List.headD (PV.cells (FV.pv (OV.fv (List.headD (Prod.fst r5) (OV.flat FV.gone))))) PV.undef)), PV.int .i64 (PV.toI (List.headD (List.tail (PV.cells (FV.pv (OV.fv (List.headD (Prod.fst r5) (OV.flat FV.gone)))))) PV.undef)), PV.str (PV.toS (List.headD (List.tail (List.tail (PV.cells (FV.pv (OV.fv (List.headD (Prod.fst r5) (OV.flat FV.gone))))))) PV.undef))]))]) fun r53 => needB (okOs Go.Proofs.Try.prog [23] [] (Prod.fst r53)) <|
  callB (rec 13 [OV.flat (FV.val (PV.agg [PV.int .i64 a0, PV.int .i64 a1, PV.str a2]))]) fun r54 => needB (okOs Go.Proofs.Try.prog [23] [] (Prod.fst r54)) <|
  callB (rec 13 [OV.flat (FV.val (PV.agg [PV.int .i64 a3, PV.int .i64 a4, PV.str a5]))]) fun r55 => needB (okOs Go.Proofs.Try.prog [23] [] (Prod.fst r55)) <|
  callB (rec 12 [OV.flat (FV.val (PV.int .i64 (1 : Int))), OV.flat (FV.val (PV.agg [PV.int .i64 (PV.toI (List.headD (PV.cells (FV.pv (OV.fv (List.headD (Prod.fst r54) (OV.flat FV.gone))))) PV.undef)), PV.int .i64 (PV.toI (List.headD (List.tail (PV.cells (FV.pv (OV.fv (List.headD (Prod.fst r54) (OV.flat FV.gone)))))) PV.undef)), PV.str (PV.toS (List.headD (List.tail (List.tail (PV.cells (FV.pv (OV.fv (List.headD (Prod.fst r54) (OV.flat FV.gone))))))) PV.undef))])), OV.flat (FV.val (PV.agg [PV.int .i64 (PV.toI (List.headD (PV.cells (FV.pv (OV.fv (List.headD (Prod.fst r55) (OV.flat FV.gone))))) PV.undef)), PV.int .i64 (PV.toI (List.headD (List.tail (PV.cells (FV.pv (OV.fv (List.headD (Prod.fst r55) (OV.flat FV.gone)))))) PV.undef)), PV.str (PV.toS (List.headD (List.tail (List.tail (PV.cells (FV.pv (OV.fv (List.headD (Prod.fst r55) (OV.flat FV.gone))))))) PV.undef))]))]) fun r56 => needB (okOs Go.Proofs.Try.prog [23] [] (Prod.fst r56)) <|
  ifB (((PV.toI (List.headD (PV.cells (FV.pv (OV.fv (List.headD (Prod.fst r53) (OV.flat FV.gone))))) PV.undef)) == (PV.toI (List.headD (PV.cells (FV.pv (OV.fv (List.headD (Prod.fst r56) (OV.flat FV.gone))))) PV.undef))) && (((PV.toI (List.headD (List.tail (PV.cells (FV.pv (OV.fv (List.headD (Prod.fst r53) (OV.flat FV.gone)))))) PV.undef)) == (PV.toI (List.headD (List.tail (PV.cells (FV.pv (OV.fv (List.headD (Prod.fst r56) (OV.flat FV.gone)))))) PV.undef))) && (((PV.toS (List.headD (List.tail (List.tail (PV.cells (FV.pv (OV.fv (List.headD (Prod.fst r53) (OV.flat FV.gone))))))) PV.undef)) == (PV.toS (List.headD (List.tail (List.tail (PV.cells (FV.pv (OV.fv (List.headD (Prod.fst r56) (OV.flat FV.gone))))))) PV.undef))) && (true))))
  (callB (rec 13 [OV.flat (FV.val (PV.agg [PV.int .i64 (PV.toI (List.headD (PV.cells (FV.pv (OV.fv (List.headD (Prod.fst r6) (OV.flat FV.gone))))) PV.undef)), PV.int .i64 (PV.toI (List.headD (List.tail (PV.cells (FV.pv (OV.fv (List.headD (Prod.fst r6) (OV.flat FV.gone)))))) PV.undef)), PV.str (PV.toS (List.headD (List.tail (List.tail (PV.cells (FV.pv (OV.fv (List.headD (Prod.fst r6) (OV.flat FV.gone))))))) PV.undef))]))]) fun r57 => needB (okOs Go.Proofs.Try.prog [23] [] (Prod.fst r57)) <|
  callB (rec 13 [OV.flat (FV.val (PV.agg [PV.int .i64 a0, PV.int .i64 a1, PV.str a2]))]) fun r58 => needB (okOs Go.Proofs.Try.prog [23] [] (Prod.fst r58)) <|
  callB (rec 13 [OV.flat (FV.val (PV.agg [PV.int .i64 a3, PV.int .i64 a4, PV.str a5]))]) fun r59 => needB (okOs Go.Proofs.Try.prog [23] [] (Prod.fst r59)) <|
  callB (rec 12 [OV.flat (FV.val (PV.int .i64 (2 : Int))), OV.flat (FV.val (PV.agg [PV.int .i64 (PV.toI (List.headD (PV.cells (FV.pv (OV.fv (List.headD (Prod.fst r58) (OV.flat FV.gone))))) PV.undef)), PV.int .i64 (PV.toI (List.headD (List.tail (PV.cells (FV.pv (OV.fv (List.headD (Prod.fst r58) (OV.flat FV.gone)))))) PV.undef)), PV.str (PV.toS (List.headD (List.tail (List.tail (PV.cells (FV.pv (OV.fv (List.headD (Prod.fst r58) (OV.flat FV.gone))))))) PV.undef))])), OV.flat (FV.val (PV.agg [PV.int .i64 (PV.toI (List.headD (PV.cells (FV.pv (OV.fv (List.headD (Prod.fst r59) (OV.flat FV.gone))))) PV.undef)), PV.int .i64 (PV.toI (List.headD (List.tail (PV.cells (FV.pv (OV.fv (List.headD (Prod.fst r59) (OV.flat FV.gone)))))) PV.undef)), PV.str (PV.toS (List.headD (List.tail (List.tail (PV.cells (FV.pv (OV.fv (List.headD (Prod.fst r59) (OV.flat FV.gone))))))) PV.undef))]))]) fun r60 => needB (okOs Go.Proofs.Try.prog [23] [] (Prod.fst r60)) <|
  callB (rec 12 [OV.flat (FV.val (PV.int .i64 (2 : Int))), OV.flat (FV.val (PV.agg [PV.int .i64 a0, PV.int .i64 a1, PV.str a2])), OV.flat (FV.val (PV.agg [PV.int .i64 (PV.toI (List.headD (PV.cells (FV.pv (OV.fv (List.headD (Prod.fst r6) (OV.flat FV.gone))))) PV.undef)), PV.int .i64 (PV.toI (List.headD (List.tail (PV.cells (FV.pv (OV.fv (List.headD (Prod.fst r6) (OV.flat FV.gone)))))) PV.undef)), PV.str (PV.toS (List.headD (List.tail (List.tail (PV.cells (FV.pv (OV.fv (List.headD (Prod.fst r6) (OV.flat FV.gone))))))) PV.undef))]))]) fun r61 => needB (okOs Go.Proofs.Try.prog [23] [] (Prod.fst r61)) <|
  callB (rec 12 [OV.flat (FV.val (PV.int .i64 (2 : Int))), OV.flat (FV.val (PV.agg [PV.int .i64 a0, PV.int .i64 a1, PV.str a2])), OV.flat (FV.val (PV.agg [PV.int .i64 a0, PV.int .i64 a1, PV.str a2]))]) fun r62 => needB (okOs Go.Proofs.Try.prog [23] [] (Prod.fst r62)) <|
  ifB (((PV.toI (List.headD (PV.cells (FV.pv (OV.fv (List.headD (Prod.fst r61) (OV.flat FV.gone))))) PV.undef)) == (PV.toI (List.headD (PV.cells (FV.pv (OV.fv (List.headD (Prod.fst r62) (OV.flat FV.gone))))) PV.undef))) && (((PV.toI (List.headD (List.tail (PV.cells (FV.pv (OV.fv (List.headD (Prod.fst r61) (OV.flat FV.gone)))))) PV.undef)) == (PV.toI (List.headD (List.tail (PV.cells (FV.pv (OV.fv (List.headD (Prod.fst r62) (OV.flat FV.gone)))))) PV.undef))) && (((PV.toS (List.headD (List.tail (List.tail (PV.cells (FV.pv (OV.fv (List.headD (Prod.fst r61) (OV.flat FV.gone))))))) PV.undef)) == (PV.toS (List.headD (List.tail (List.tail (PV.cells (FV.pv (OV.fv (List.headD (Prod.fst r62) (OV.flat FV.gone))))))) PV.undef))) && (true))))
  (callB (rec 12 [OV.flat (FV.val (PV.int .i64 (1 : Int))), OV.flat (FV.val (PV.agg [PV.int .i64 a0, PV.int .i64 a1, PV.str a2])), OV.flat (FV.val (PV.agg [PV.int .i64 (PV.toI (List.headD (PV.cells (FV.pv (OV.fv (List.headD (Prod.fst r5) (OV.flat FV.gone))))) PV.undef)), PV.int .i64 (PV.toI (List.headD (List.tail (PV.cells (FV.pv (OV.fv (List.headD (Prod.fst r5) (OV.flat FV.gone)))))) PV.undef)), PV.str (PV.toS (List.headD (List.tail (List.tail (PV.cells (FV.pv (OV.fv (List.headD (Prod.fst r5) (OV.flat FV.gone))))))) PV.undef))]))]) fun r63 => needB (okOs Go.Proofs.Try.prog [23] [] (Prod.fst r63)) <|
  callB (rec 12 [OV.flat (FV.val (PV.int .i64 (1 : Int))), OV.flat (FV.val (PV.agg [PV.int .i64 a0, PV.int .i64 a1, PV.str a2])), OV.flat (FV.val (PV.agg [PV.int .i64 a0, PV.int .i64 a1, PV.str a2]))]) fun r64 => needB (okOs Go.Proofs.Try.prog [23] [] (Prod.fst r64)) <|
  ifB (PV.toB (FV.pv (OV.fv (List.headD (Prod.fst r1) (OV.flat FV.gone)))))
  (some ([OV.flat (FV.val (PV.bool false))], []))
  (some ([OV.flat (FV.val (PV.bool false))], [])))
  (ifB (PV.toB (FV.pv (OV.fv (List.headD (Prod.fst r1) (OV.flat FV.gone)))))
  (some ([OV.flat (FV.val (PV.bool false))], []))
  (some ([OV.flat (FV.val (PV.bool false))], []))))
  (callB (rec 12 [OV.flat (FV.val (PV.int .i64 (2 : Int))), OV.flat (FV.val (PV.agg [PV.int .i64 a0, PV.int .i64 a1, PV.str a2])), OV.flat (FV.val (PV.agg [PV.int .i64 (PV.toI (List.headD (PV.cells (FV.pv (OV.fv (List.headD (Prod.fst r6) (OV.flat FV.gone))))) PV.undef)), PV.int .i64 (PV.toI (List.headD (List.tail (PV.cells (FV.pv (OV.fv (List.headD (Prod.fst r6) (OV.flat FV.gone)))))) PV.undef)), PV.str (PV.toS (List.headD (List.tail (List.tail (PV.cells (FV.pv (OV.fv (List.headD (Prod.fst r6) (OV.flat FV.gone))))))) PV.undef))]))]) fun r65 => needB (okOs Go.Proofs.Try.prog [23] [] (Prod.fst r65)) <|
  callB (rec 12 [OV.flat (FV.val (PV.int .i64 (2 : Int))), OV.flat (FV.val (PV.agg [PV.int .i64 a0, PV.int .i64 a1, PV.str a2])), OV.flat (FV.val (PV.agg [PV.int .i64 a0, PV.int .i64 a1, PV.str a2]))]) fun r66 => needB (okOs Go.Proofs.Try.prog [23] [] (Prod.fst r66)) <|
  ifB (((PV.toI (List.headD (PV.cells (FV.pv (OV.fv (List.headD (Prod.fst r65) (OV.flat FV.gone))))) PV.undef)) == (PV.toI (List.headD (PV.cells (FV.pv (OV.fv (List.headD (Prod.fst r66) (OV.flat FV.gone))))) PV.undef))) && (((PV.toI (List.headD (List.tail (PV.cells (FV.pv (OV.fv (List.headD (Prod.fst r65) (OV.flat FV.gone)))))) PV.undef)) == (PV.toI (List.headD (List.tail (PV.cells (FV.pv (OV.fv (List.headD (Prod.fst r66) (OV.flat FV.gone)))))) PV.undef))) && (((PV.toS (List.headD (List.tail (List.tail (PV.cells (FV.pv (OV.fv (List.headD (Prod.fst r65) (OV.flat FV.gone))))))) PV.undef)) == (PV.toS (List.headD (List.tail (List.tail (PV.cells (FV.pv (OV.fv (List.headD (Prod.fst r66) (OV.flat FV.gone))))))) PV.undef))) && (true))))
  (callB (rec 12 [OV.flat (FV.val (PV.int .i64 (1 : Int))), OV.flat (FV.val (PV.agg [PV.int .i64 a0, PV.int .i64 a1, PV.str a2])), OV.flat (FV.val (PV.agg [PV.int .i64 (PV.toI (List.headD (PV.cells (FV.pv (OV.fv (List.headD (Prod.fst r5) (OV.flat FV.gone))))) PV.undef)), PV.int .i64 (PV.toI (List.headD (List.tail (PV.cells (FV.pv (OV.fv (List.headD (Prod.fst r5) (OV.flat FV.gone)))))) PV.undef)), PV.str (PV.toS (List.headD (List.tail (List.tail (PV.cells (FV.pv (OV.fv (List.headD (Prod.fst r5) (OV.flat FV.gone))))))) PV.undef))]))]) fun r67 => needB (okOs Go.Proofs.Try.prog [23] [] (Prod.fst r67)) <|
  callB (rec 12 [OV.flat (FV.val (PV.int .i64 (1 : Int))), OV.flat (FV.val (PV.agg [PV.int .i64 a0, PV.int .i64 a1, PV.str a2])), OV.flat (FV.val (PV.agg [PV.int .i64 a0, PV.int .i64 a1, PV.str a2]))]) fun r68 => needB (okOs Go.Proofs.Try.prog [23] [] (Prod.fst r68)) <|
  ifB (PV.toB (FV.pv (OV.fv (List.headD (Prod.fst r1) (OV.flat FV.gone)))))
  (some ([OV.flat (FV.val (PV.bool false))], []))
  (some ([OV.flat (FV.val (PV.bool false))], [])))
  (ifB (PV.toB (FV.pv (OV.fv (List.headD (Prod.fst r1) (OV.flat FV.gone)))))
  (some ([OV.flat (FV.val (PV.bool false))], []))
  (some ([OV.flat (FV.val (PV.bool false))], [])))))
  (callB (rec 13 [OV.flat (FV.val (PV.agg [PV.int .i64 (PV.toI (List.headD (PV.cells (FV.pv (OV.fv (List.headD (Prod.fst r5) (OV.flat FV.gone))))) PV.undef)), PV.int .i64 (PV.toI (List.headD (List.tail (PV.cells (FV.pv (OV.fv (List.headD (Prod.fst r5) (OV.flat FV.gone)))))) PV.undef)), PV.str (PV.toS (List.headD (List.tail (List.tail (PV.cells (FV.pv (OV.fv (List.headD (Prod.fst r5) (OV.flat FV.gone))))))) PV.undef))]))]) fun r69 => needB (okOs Go.Proofs.Try.prog [23] [] (Prod.fst r69)) <|
  callB (rec 13 [OV.flat (FV.val (PV.agg [PV.int .i64 a0, PV.int .i64 a1, PV.str a2]))]) fun r70 => needB (okOs Go.Proofs.Try.prog [23] [] (Prod.fst r70)) <|
  callB (rec 13 [OV.flat (FV.val (PV.agg [PV.int .i64 a3, PV.int .i64 a4, PV.str a5]))]) fun r71 => needB (okOs Go.Proofs.Try.prog [23] [] (Prod.fst r71)) <|
  callB (rec 12 [OV.flat (FV.val (PV.int .i64 (1 : Int))), OV.flat (FV.val (PV.agg [PV.int .i64 (PV.toI (List.headD (PV.cells (FV.pv (OV.fv (List.headD (Prod.fst r70) (OV.flat FV.gone))))) PV.undef)), PV.int .i64 (PV.toI (List.headD (List.tail (PV.cells (FV.pv (OV.fv (List.headD (Prod.fst r70) (OV.flat FV.gone)))))) PV.undef)), PV.str (PV.toS (List.headD (List.tail (List.tail (PV.cells (FV.pv (OV.fv (List.headD (Prod.fst r70) (OV.flat FV.gone))))))) PV.undef))])), OV.flat (FV.val (PV.agg [PV.int .i64 (PV.toI (List.headD (PV.cells (FV.pv (OV.fv (List.headD (Prod.fst r71) (OV.flat FV.gone))))) PV.undef)), PV.int .i64 (PV.toI (List.headD (List.tail (PV.cells (FV.pv (OV.fv (List.headD (Prod.fst r71) (OV.flat FV.gone)))))) PV.undef)), PV.str (PV.toS (List.headD (List.tail (List.tail (PV.cells (FV.pv (OV.fv (List.headD (Prod.fst r71) (OV.flat FV.gone))))))) PV.undef))]))]) fun r72 => needB (okOs Go.Proofs.Try.prog [23] [] (Prod.fst r72)) <|
  ifB (((PV.toI (List.headD (PV.cells (FV.pv (OV.fv (List.headD (Prod.fst r69) (OV.flat FV.gone))))) PV.undef)) == (PV.toI (List.headD (PV.cells (FV.pv (OV.fv (List.headD (Prod.fst r72) (OV.flat FV.gone))))) PV.undef))) && (((PV.toI (List.headD (List.tail (PV.cells (FV.pv (OV.fv (List.headD (Prod.fst r69) (OV.flat FV.gone)))))) PV.undef)) == (PV.toI (List.headD (List.tail (PV.cells (FV.pv (OV.fv (List.headD (Prod.fst r72) (OV.flat FV.gone)))))) PV.undef))) && (((PV.toS (List.headD (List.tail (List.tail (PV.cells (FV.pv (OV.fv (List.headD (Prod.fst r69) (OV.flat FV.gone))))))) PV.undef)) == (PV.toS (List.headD (List.tail (List.tail (PV.cells (FV.pv (OV.fv (List.headD (Prod.fst r72) (OV.flat FV.gone))))))) PV.undef))) && (true))))
  (callB (rec 13 [OV.flat (FV.val (PV.agg [PV.int .i64 (PV.toI (List.headD (PV.cells (FV.pv (OV.fv (List.headD (Prod.fst r6) (OV.flat FV.gone))))) PV.undef)), PV.int .i64 (PV.toI (List.headD (List.tail (PV.cells (FV.pv (OV.fv (List.headD (Prod.fst r6) (OV.flat FV.gone)))))) PV.undef)), PV.str (PV.toS (List.headD (List.tail (List.tail (PV.cells (FV.pv (OV.fv (List.headD (Prod.fst r6) (OV.flat FV.gone))))))) PV.undef))]))]) fun r73 => needB (okOs Go.Proofs.Try.prog [23] [] (Prod.fst r73)) <|
  callB (rec 13 [OV.flat (FV.val (PV.agg [PV.int .i64 a0, PV.int .i64 a1, PV.str a2]))]) fun r74 => needB (okOs Go.Proofs.Try.prog [23] [] (Prod.fst r74)) <|
  callB (rec 13 [OV.flat (FV.val (PV.agg [PV.int .i64 a3, PV.int .i64 a4, PV.str a5]))]) fun r75 => needB (okOs Go.Proofs.Try.prog [23] [] (Prod.fst r75)) <|
  callB (rec 12 [OV.flat (FV.val (PV.int .i64 (2 : Int))), OV.flat (FV.val (PV.agg [PV.int .i64 (PV.toI (List.headD (PV.cells (FV.pv (OV.fv (List.headD (Prod.fst r74) (OV.flat FV.gone))))) PV.undef)), PV.int .i64 (PV.toI (List.headD (List.tail (PV.cells (FV.pv (OV.fv (List.headD (Prod.fst r74) (OV.flat FV.gone)))))) PV.undef)), PV.str (PV.toS (List.headD (List.tail (List.tail (PV.cells (FV.pv (OV.fv (List.headD (Prod.fst r74) (OV.flat FV.gone))))))) PV.undef))])), OV.flat (FV.val (PV.agg [PV.int .i64 (PV.toI (List.headD (PV.cells (FV.pv (OV.fv (List.headD (Prod.fst r75) (OV.flat FV.gone))))) PV.undef)), PV.int .i64 (PV.toI (List.headD (List.tail (PV.cells (FV.pv (OV.fv (List.headD (Prod.fst r75) (OV.flat FV.gone)))))) PV.undef)), PV.str (PV.toS (List.headD (List.tail (List.tail (PV.cells (FV.pv (OV.fv (List.headD (Prod.fst r75) (OV.flat FV.gone))))))) PV.undef))]))]) fun r76 => needB (okOs Go.Proofs.Try.prog [23] [] (Prod.fst r76)) <|
  callB (rec 12 [OV.flat (FV.val (PV.int .i64 (2 : Int))), OV.flat (FV.val (PV.agg [PV.int .i64 a0, PV.int .i64 a1, PV.str a2])), OV.flat (FV.val (PV.agg [PV.int .i64 (PV.toI (List.headD (PV.cells (FV.pv (OV.fv (List.headD (Prod.fst r6) (OV.flat FV.gone))))) PV.undef)), PV.int .i64 (PV.toI (List.headD (List.tail (PV.cells (FV.pv (OV.fv (List.headD (Prod.fst r6) (OV.flat FV.gone)))))) PV.undef)), PV.str (PV.toS (List.headD (List.tail (List.tail (PV.cells (FV.pv (OV.fv (List.headD (Prod.fst r6) (OV.flat FV.gone))))))) PV.undef))]))]) fun r77 => needB (okOs Go.Proofs.Try.prog [23] [] (Prod.fst r77)) <|
  callB (rec 12 [OV.flat (FV.val (PV.int .i64 (2 : Int))), OV.flat (FV.val (PV.agg [PV.int .i64 a0, PV.int .i64 a1, PV.str a2])), OV.flat (FV.val (PV.agg [PV.int .i64 a0, PV.int .i64 a1, PV.str a2]))]) fun r78 => needB (okOs Go.Proofs.Try.prog [23] [] (Prod.fst r78)) <|
  ifB (((PV.toI (List.headD (PV.cells (FV.pv (OV.fv (List.headD (Prod.fst r77) (OV.flat FV.gone))))) PV.undef)) == (PV.toI (List.headD (PV.cells (FV.pv (OV.fv (List.headD (Prod.fst r78) (OV.flat FV.gone))))) PV.undef))) && (((PV.toI (List.headD (List.tail (PV.cells (FV.pv (OV.fv (List.headD (Prod.fst r77) (OV.flat FV.gone)))))) PV.undef)) == (PV.toI (List.headD (List.tail (PV.cells (FV.pv (OV.fv (List.headD (Prod.fst r78) (OV.flat FV.gone)))))) PV.undef))) && (((PV.toS (List.headD (List.tail (List.tail (PV.cells (FV.pv (OV.fv (List.headD (Prod.fst r77) (OV.flat FV.gone))))))) PV.undef)) == (PV.toS (List.headD (List.tail (List.tail (PV.cells (FV.pv (OV.fv (List.headD (Prod.fst r78) (OV.flat FV.gone))))))) PV.undef))) && (true))))
  (callB (rec 12 [OV.flat (FV.val (PV.int .i64 (1 : Int))), OV.flat (FV.val (PV.agg [PV.int .i64 a0, PV.int .i64 a1, PV.str a2])), OV.flat (FV.val (PV.agg [PV.int .i64 (PV.toI (List.headD (PV.cells (FV.pv (OV.fv (List.headD (Prod.fst r5) (OV.flat FV.gone))))) PV.undef)), PV.int .i64 (PV.toI (List.headD (List.tail (PV.cells (FV.pv (OV.fv (List.headD (Prod.fst r5) (OV.flat FV.gone)))))) PV.undef)), PV.str (PV.toS (List.headD (List.tail (List.tail (PV.cells (FV.pv (OV.fv (List.headD (Prod.fst r5) (OV.flat FV.gone))))))) PV.undef))]))]) fun r79 => needB (okOs Go.Proofs.Try.prog [23] [] (Prod.fst r79)) <|
  callB (rec 12 [OV.flat (FV.val (PV.int .i64 (1 : Int))), OV.flat (FV.val (PV.agg [PV.int .i64 a0, PV.int .i64 a1, PV.str a2])), OV.flat (FV.val (PV.agg [PV.int .i64 a0, PV.int .i64 a1, PV.str a2]))]) fun r80 => needB (okOs Go.Proofs.Try.prog [23] [] (Prod.fst r80)) <|
  ifB (PV.toB (FV.pv (OV.fv (List.headD (Prod.fst r1) (OV.flat FV.gone)))))
  (some ([OV.flat (FV.val (PV.bool false))], []))
  (some ([OV.flat (FV.val (PV.bool false))], [])))
  (ifB (PV.toB (FV.pv (OV.fv (List.headD (Prod.fst r1) (OV.flat FV.gone)))))
  (some ([OV.flat (FV.val (PV.bool false))], []))
  (some ([OV.flat (FV.val (PV.bool false))], []))))
  (callB (rec 12 [OV.flat (FV.val (PV.int .i64 (2 : Int))), OV.flat (FV.val (PV.agg [PV.int .i64 a0, PV.int .i64 a1, PV.str a2])), OV.flat (FV.val (PV.agg [PV.int .i64 (PV.toI (List.headD (PV.cells (FV.pv (OV.fv (List.headD (Prod.fst r6) (OV.flat FV.gone))))) PV.undef)), PV.int .i64 (PV.toI (List.headD (List.tail (PV.cells (FV.pv (OV.fv (List.headD (Prod.fst r6) (OV.flat FV.gone)))))) PV.undef)), PV.str (PV.toS (List.headD (List.tail (List.tail (PV.cells (FV.pv (OV.fv (List.headD (Prod.fst r6) (OV.flat FV.gone))))))) PV.undef))]))]) fun r81 => needB (okOs Go.Proofs.Try.prog [23] [] (Prod.fst r81)) <|
  callB (rec 12 [OV.flat (FV.val (PV.int .i64 (2 : Int))), OV.flat (FV.val (PV.agg [PV.int .i64 a0, PV.int .i64 a1, PV.str a2])), OV.flat (FV.val (PV.agg [PV.int .i64 a0, PV.int .i64 a1, PV.str a2]))]) fun r82 => needB (okOs Go.Proofs.Try.prog [23] [] (Prod.fst r82)) <|
  ifB (((PV.toI (List.headD (PV.cells (FV.pv (OV.fv (List.headD (Prod.fst r81) (OV.flat FV.gone))))) PV.undef)) == (PV.toI (List.headD (PV.cells (FV.pv (OV.fv (List.headD (Prod.fst r82) (OV.flat FV.gone))))) PV.undef))) && (((PV.toI (List.headD (List.tail (PV.cells (FV.pv (OV.fv (List.headD (Prod.fst r81) (OV.flat FV.gone)))))) PV.undef)) == (PV.toI (List.headD (List.tail (PV.cells (FV.pv (OV.fv (List.headD (Prod.fst r82) (OV.flat FV.gone)))))) PV.undef))) && (((PV.toS (List.headD (List.tail (List.tail (PV.cells (FV.pv (OV.fv (List.headD (Prod.fst r81) (OV.flat FV.gone))))))) PV.undef)) == (PV.toS (List.headD (List.tail (List.tail (PV.cells (FV.pv (OV.fv (List.headD (Prod.fst r82) (OV.flat FV.gone))))))) PV.undef))) && (true))))
  (callB (rec 12 [OV.flat (FV.val (PV.int .i64 (1 : Int))), OV.flat (FV.val (PV.agg [PV.int .i64 a0, PV.int .i64 a1, PV.str a2])), OV.flat (FV.val (PV.agg [PV.int .i64 (PV.toI (List.headD (PV.cells (FV.pv (OV.fv (List.headD (Prod.fst r5) (OV.flat FV.gone))))) PV.undef)), PV.int .i64 (PV.toI (List.headD (List.tail (PV.cells (FV.pv (OV.fv (List.headD (Prod.fst r5) (OV.flat FV.gone)))))) PV.undef)), PV.str (PV.toS (List.headD (List.tail (List.tail (PV.cells (FV.pv (OV.fv (List.headD (Prod.fst r5) (OV.flat FV.gone))))))) PV.undef))]))]) fun r83 => needB (okOs Go.Proofs.Try.prog [23] [] (Prod.fst r83)) <|
  callB (rec 12 [OV.flat (FV.val (PV.int .i64 (1 : Int))), OV.flat (FV.val (PV.agg [PV.int .i64 a0, PV.int .i64 a1, PV.str a2])), OV.flat (FV.val (PV.agg [PV.int .i64 a0, PV.int .i64 a1, PV.str a2]))]) fun r84 => needB (okOs Go.Proofs.Try.prog [23] [] (Prod.fst r84)) <|
  ifB (PV.toB (FV.pv (OV.fv (List.headD (Prod.fst r1) (OV.flat FV.gone)))))
  (some ([OV.flat (FV.val (PV.bool false))], []))
  (some ([OV.flat (FV.val (PV.bool false))], [])))
  (ifB (PV.toB (FV.pv (OV.fv (List.headD (Prod.fst r1) (OV.flat FV.gone)))))
  (some ([OV.flat (FV.val (PV.bool false))], []))
  (some ([OV.flat (FV.val (PV.bool false))], []))))))))))))

theorem f4_vestrylaw13_EvalLogic_eq (rec : Rec) (n : Nat) (a0 : Int) (a1 : Int) (a2 : List UInt8) (a3 : Int) (a4 : Int) (a5 : List UInt8) (a6 : Int) (a7 : Int) (a8 : List UInt8) : callBody C rec n 4 [OV.flat (FV.val (PV.agg [PV.int .i64 a0, PV.int .i64 a1, PV.str a2])), OV.flat (FV.val (PV.agg [PV.int .i64 a3, PV.int .i64 a4, PV.str a5])), OV.flat (FV.val (PV.agg [PV.int .i64 a6, PV.int .i64 a7, PV.str a8]))] = f4_vestrylaw13_EvalLogic rec n a0 a1 a2 a3 a4 a5 a6 a7 a8 := by kernel_rfl

noncomputable def f5_vestrylaw13_EvalRows (rec : Rec) (n : Nat) (a0 : Int) (a1 : Int) (a2 : List UInt8) (a3 : List UInt8) (a4 : Int) (a5 : Int) (a6 : List UInt8) (a7 : List PV) (a8 : List PV) (a9 : List PV) : Option (List OV × List OV) :=
  callB (rec 8 []) fun r1 => needB (okOs Go.Proofs.Try.prog [4] [] (Prod.fst r1)) <|
  callB (rec 14 [OV.flat (FV.val (PV.agg [PV.int .i64 a0, PV.int .i64 a1, PV.str a2, PV.str a3, PV.int .i64 a4, PV.int .i64 a5, PV.str a6, PV.sl (some 8) a7])), OV.flat (FV.val (PV.int .i64 (12 : Int)))]) fun r2 => needB (okOs Go.Proofs.Try.prog [4] [] (Prod.fst r2)) <|
  ifB (!(PV.toB (FV.pv (OV.fv (List.headD (Prod.fst r2) (OV.flat FV.gone))))))
  (some ([OV.flat (FV.val (PV.bool (PV.toB (FV.pv (OV.fv (List.headD (Prod.fst r1) (OV.flat FV.gone)))))))], []))
  (callB (rec 15 [OV.flat (FV.val (PV.agg [PV.int .i64 a0, PV.int .i64 a1, PV.str a2, PV.str a3, PV.int .i64 a4, PV.int .i64 a5, PV.str a6, PV.sl (some 8) a7])), OV.flat (FV.val (PV.sl (some 3) a8))]) fun r3 => needB (okOs Go.Proofs.Try.prog [23, 25] [] (Prod.fst r3)) <|
  needB (Nat.ble ((List.length ([] : List PV) + List.length a8) * 32) 140737488355328) <|
  needB (Nat.ble (List.length ([] : List PV) + List.length a8) 9223372036854775807) <|
  needB (Nat.ble ((List.length ([] ++ a8) + List.length a9) * 32) 140737488355328) <|
  needB (Nat.ble (List.length ([] ++ a8) + List.length a9) 9223372036854775807) <|
  callB (rec 15 [OV.flat (FV.val (PV.agg [PV.int .i64 a0, PV.int .i64 a1, PV.str a2, PV.str a3, PV.int .i64 a4, PV.int .i64 a5, PV.str a6, PV.sl (some 8) a7])), OV.flat (FV.val (PV.sl (some 3) (([] ++ a8) ++ a9)))]) fun r4 => needB (okOs Go.Proofs.Try.prog [23, 25] [] (Prod.fst r4)) <|
  callB (rec 16 [OV.flat (FV.val (PV.agg [PV.int .i64 a0, PV.int .i64 a1, PV.str a2, PV.str a3, PV.int .i64 a4, PV.int .i64 a5, PV.str a6, PV.sl (some 8) a7])), OV.flat (FV.val (PV.agg [PV.int .i64 a0, PV.int .i64 a1, PV.str a2, PV.str a3, PV.int .i64 a4, PV.int .i64 a5, PV.str a6, PV.sl (some 8) a7]))]) fun r5 => needB (okOs Go.Proofs.Try.prog [4] [] (Prod.fst r5)) <|
  ifB (PV.toB (FV.pv (OV.fv (List.headD (Prod.fst r1) (OV.flat FV.gone)))))
  (ifB (PV.toB (FV.pv (OV.fv (List.headD (Prod.fst r5) (OV.flat FV.gone)))))
  (ifB (PV.toI (FV.pv (OV.fv (List.headD (List.tail (Prod.fst r3)) (OV.flat FV.gone)))) == (12 : Int))
  (some ([OV.flat (FV.val (PV.bool true))], []))
  (ifB (((PV.toI (List.headD (PV.cells (FV.pv (OV.fv (List.headD (Prod.fst r3) (OV.flat FV.gone))))) PV.undef)) == (PV.toI (List.headD (PV.cells (FV.pv (OV.fv (List.headD (Prod.fst r4) (OV.flat FV.gone))))) PV.undef))) && (((PV.toI (List.headD (List.tail (PV.cells (FV.pv (OV.fv (List.headD (Prod.fst r3) (OV.flat FV.gone)))))) PV.undef)) == (PV.toI (List.headD (List.tail (PV.cells (FV.pv (OV.fv (List.headD (Prod.fst r4) (OV.flat FV.gone)))))) PV.undef))) && (((PV.toS (List.headD (List.tail (List.tail (PV.cells (FV.pv (OV.fv (List.headD (Prod.fst r3) (OV.flat FV.gone))))))) PV.undef)) == (PV.toS (List.headD (List.tail (List.tail (PV.cells (FV.pv (OV.fv (List.headD (Prod.fst r4) (OV.flat FV.gone))))))) PV.undef))) && (true))))
  (some ([OV.flat (FV.val (PV.bool (PV.toI (FV.pv (OV.fv (List.headD (List.tail (Prod.fst r3)) (OV.flat FV.gone)))) == PV.toI (FV.pv (OV.fv (List.headD (List.tail (Prod.fst r4)) (OV.flat FV.gone)))))))], []))
  (some ([OV.flat (FV.val (PV.bool false))], []))))
  (some ([OV.flat (FV.val (PV.bool false))], [])))
  (some ([OV.flat (FV.val (PV.bool false))], [])))

theorem f5_vestrylaw13_EvalRows_eq (rec : Rec) (n : Nat) (a0 : Int) (a1 : Int) (a2 : List UInt8) (a3 : List UInt8) (a4 : Int) (a5 : Int) (a6 : List UInt8) (a7 : List PV) (a8 : List PV) (a9 : List PV) : callBody C rec n 5 [OV.flat (FV.val (PV.agg [PV.int .i64 a0, PV.int .i64 a1, PV.str a2, PV.str a3, PV.int .i64 a4, PV.int .i64 a5, PV.str a6, PV.sl (some 8) a7])), OV.flat (FV.val (PV.sl (some 3) a8)), OV.flat (FV.val (PV.sl (some 3) a9))] = f5_vestrylaw13_EvalRows rec n a0 a1 a2 a3 a4 a5 a6 a7 a8 a9 := by kernel_rfl

noncomputable def f6_vestrylaw13_EvalNulls (rec : Rec) (n : Nat) (a0 : Int) (a1 : Int) (a2 : Int) (a3 : List UInt8) : Option (List OV × List OV) :=
  callB (rec 8 []) fun r1 => needB (okOs Go.Proofs.Try.prog [4] [] (Prod.fst r1)) <|
  callB (rec 11 [OV.flat (FV.val (PV.agg [PV.int .i64 a1, PV.int .i64 a2, PV.str a3]))]) fun r2 => needB (okOs Go.Proofs.Try.prog [25] [] (Prod.fst r2)) <|
  ifB (PV.toI (FV.pv (OV.fv (List.headD (Prod.fst r2) (OV.flat FV.gone)))) != (0 : Int))
  (some ([OV.flat (FV.val (PV.bool (PV.toB (FV.pv (OV.fv (List.headD (Prod.fst r1) (OV.flat FV.gone)))))))], []))
  (ifB (decide (a0 < (3 : Int)))
  (some ([OV.flat (FV.val (PV.bool (PV.toB (FV.pv (OV.fv (List.headD (Prod.fst r1) (OV.flat FV.gone)))))))], []))
  (ifB (decide (a0 > (13 : Int)))
  (some ([OV.flat (FV.val (PV.bool (PV.toB (FV.pv (OV.fv (List.headD (Prod.fst r1) (OV.flat FV.gone)))))))], []))
  (callB (rec 9 [OV.flat (FV.val (PV.int .i64 a0)), OV.flat (FV.val (PV.agg [PV.int .i64 (0 : Int), PV.int .i64 (0 : Int), PV.str ([] : List UInt8)])), OV.flat (FV.val (PV.agg [PV.int .i64 a1, PV.int .i64 a2, PV.str a3]))]) fun r3 => needB (okOs Go.Proofs.Try.prog [23, 25] [] (Prod.fst r3)) <|
  callB (rec 9 [OV.flat (FV.val (PV.int .i64 a0)), OV.flat (FV.val (PV.agg [PV.int .i64 a1, PV.int .i64 a2, PV.str a3])), OV.flat (FV.val (PV.agg [PV.int .i64 (0 : Int), PV.int .i64 (0 : Int), PV.str ([] : List UInt8)]))]) fun r4 => needB (okOs Go.Proofs.Try.prog [23, 25] [] (Prod.fst r4)) <|
  callB (rec 15 [OV.flat (FV.val (PV.agg [PV.int .i64 (6 : Int), PV.int .i64 (0 : Int), PV.str ([] : List UInt8), PV.str ([] : List UInt8), PV.int .i64 (0 : Int), PV.int .i64 (0 : Int), PV.str ([] : List UInt8), PV.sl (some 8) [PV.agg [PV.int .i64 (1 : Int), PV.int .i64 (0 : Int), PV.str ([] : List UInt8), PV.str ([] : List UInt8), PV.int .i64 a1, PV.int .i64 a2, PV.str a3, PV.sl (some 8) []]]])), OV.flat (FV.val (PV.sl (some 3) []))]) fun r5 => needB (okOs Go.Proofs.Try.prog [23, 25] [] (Prod.fst r5)) <|
  callB (rec 17 [OV.flat (FV.val (PV.int .i64 (0 : Int)))]) fun r6 => needB (okOs Go.Proofs.Try.prog [23] [] (Prod.fst r6)) <|
  ifB ((a1 == (0 : Int)) && ((a2 == (0 : Int)) && ((a3 == ([] : List UInt8)) && (true))))
  (callB (rec 17 [OV.flat (FV.val (PV.int .i64 (1 : Int)))]) fun r7 => needB (okOs Go.Proofs.Try.prog [23] [] (Prod.fst r7)) <|
  ifB (PV.toB (FV.pv (OV.fv (List.headD (Prod.fst r1) (OV.flat FV.gone)))))
  (ifB (PV.toI (FV.pv (OV.fv (List.headD (List.tail (Prod.fst r3)) (OV.flat FV.gone)))) == (0 : Int))
  (ifB (PV.toI (FV.pv (OV.fv (List.headD (List.tail (Prod.fst r4)) (OV.flat FV.gone)))) == (0 : Int))
  (ifB (((PV.toI (List.headD (PV.cells (FV.pv (OV.fv (List.headD (Prod.fst r3) (OV.flat FV.gone))))) PV.undef)) == (0 : Int)) && (((PV.toI (List.headD (List.tail (PV.cells (FV.pv (OV.fv (List.headD (Prod.fst r3) (OV.flat FV.gone)))))) PV.undef)) == (0 : Int)) && (((PV.toS (List.headD (List.tail (List.tail (PV.cells (FV.pv (OV.fv (List.headD (Prod.fst r3) (OV.flat FV.gone))))))) PV.undef)) == ([] : List UInt8)) && (true))))
  (ifB (((PV.toI (List.headD (PV.cells (FV.pv (OV.fv (List.headD (Prod.fst r4) (OV.flat FV.gone))))) PV.undef)) == (0 : Int)) && (((PV.toI (List.headD (List.tail (PV.cells (FV.pv (OV.fv (List.headD (Prod.fst r4) (OV.flat FV.gone)))))) PV.undef)) == (0 : Int)) && (((PV.toS (List.headD (List.tail (List.tail (PV.cells (FV.pv (OV.fv (List.headD (Prod.fst r4) (OV.flat FV.gone))))))) PV.undef)) == ([] : List UInt8)) && (true))))
  (ifB (PV.toI (FV.pv (OV.fv (List.headD (List.tail (Prod.fst r5)) (OV.flat FV.gone)))) == (0 : Int))
  (some ([OV.flat (FV.val (PV.bool (((PV.toI (List.headD (PV.cells (FV.pv (OV.fv (List.headD (Prod.fst r5) (OV.flat FV.gone))))) PV.undef)) == (PV.toI (List.headD (PV.cells (FV.pv (OV.fv (List.headD (Prod.fst r7) (OV.flat FV.gone))))) PV.undef))) && (((PV.toI (List.headD (List.tail (PV.cells (FV.pv (OV.fv (List.headD (Prod.fst r5) (OV.flat FV.gone)))))) PV.undef)) == (PV.toI (List.headD (List.tail (PV.cells (FV.pv (OV.fv (List.headD (Prod.fst r7) (OV.flat FV.gone)))))) PV.undef))) && (((PV.toS (List.headD (List.tail (List.tail (PV.cells (FV.pv (OV.fv (List.headD (Prod.fst r5) (OV.flat FV.gone))))))) PV.undef)) == (PV.toS (List.headD (List.tail (List.tail (PV.cells (FV.pv (OV.fv (List.headD (Prod.fst r7) (OV.flat FV.gone))))))) PV.undef))) && (true))))))], []))
  (some ([OV.flat (FV.val (PV.bool false))], [])))
  (some ([OV.flat (FV.val (PV.bool false))], [])))
  (some ([OV.flat (FV.val (PV.bool false))], [])))
  (some ([OV.flat (FV.val (PV.bool false))], [])))
  (some ([OV.flat (FV.val (PV.bool false))], [])))
  (some ([OV.flat (FV.val (PV.bool false))], [])))
  (ifB (PV.toB (FV.pv (OV.fv (List.headD (Prod.fst r1) (OV.flat FV.gone)))))
  (ifB (PV.toI (FV.pv (OV.fv (List.headD (List.tail (Prod.fst r3)) (OV.flat FV.gone)))) == (0 : Int))
  (ifB (PV.toI (FV.pv (OV.fv (List.headD (List.tail (Prod.fst r4)) (OV.flat FV.gone)))) == (0 : Int))
  (ifB (((PV.toI (List.headD (PV.cells (FV.pv (OV.fv (List.headD (Prod.fst r3) (OV.flat FV.gone))))) PV.undef)) == (0 : Int)) && (((PV.toI (List.headD (List.tail (PV.cells (FV.pv (OV.fv (List.headD (Prod.fst r3) (OV.flat FV.gone)))))) PV.undef)) == (0 : Int)) && (((PV.toS (List.headD (List.tail (List.tail (PV.cells (FV.pv (OV.fv (List.headD (Prod.fst r3) (OV.flat FV.gone))))))) PV.undef)) == ([] : List UInt8)) && (true))))
  (ifB (((PV.toI (List.headD (PV.cells (FV.pv (OV.fv (List.headD (Prod.fst r4) (OV.flat FV.gone))))) PV.undef)) == (0 : Int)) && (((PV.toI (List.headD (List.tail (PV.cells (FV.pv (OV.fv (List.headD (Prod.fst r4) (OV.flat FV.gone)))))) PV.undef)) == (0 : Int)) && (((PV.toS (List.headD (List.tail (List.tail (PV.cells (FV.pv (OV.fv (List.headD (Prod.fst r4) (OV.flat FV.gone))))))) PV.undef)) == ([] : List UInt8)) && (true))))
  (ifB (PV.toI (FV.pv (OV.fv (List.headD (List.tail (Prod.fst r5)) (OV.flat FV.gone)))) == (0 : Int))
  (some ([OV.flat (FV.val (PV.bool (((PV.toI (List.headD (PV.cells (FV.pv (OV.fv (List.headD (Prod.fst r5) (OV.flat FV.gone))))) PV.undef)) == (PV.toI (List.headD (PV.cells (FV.pv (OV.fv (List.headD (Prod.fst r6) (OV.flat FV.gone))))) PV.undef))) && (((PV.toI (List.headD (List.tail (PV.cells (FV.pv (OV.fv (List.headD (Prod.fst r5) (OV.flat FV.gone)))))) PV.undef)) == (PV.toI (List.headD (List.tail (PV.cells (FV.pv (OV.fv (List.headD (Prod.fst r6) (OV.flat FV.gone)))))) PV.undef))) && (((PV.toS (List.headD (List.tail (List.tail (PV.cells (FV.pv (OV.fv (List.headD (Prod.fst r5) (OV.flat FV.gone))))))) PV.undef)) == (PV.toS (List.headD (List.tail (List.tail (PV.cells (FV.pv (OV.fv (List.headD (Prod.fst r6) (OV.flat FV.gone))))))) PV.undef))) && (true))))))], []))
  (some ([OV.flat (FV.val (PV.bool false))], [])))
  (some ([OV.flat (FV.val (PV.bool false))], [])))
  (some ([OV.flat (FV.val (PV.bool false))], [])))
  (some ([OV.flat (FV.val (PV.bool false))], [])))
  (some ([OV.flat (FV.val (PV.bool false))], [])))
  (some ([OV.flat (FV.val (PV.bool false))], []))))))

theorem f6_vestrylaw13_EvalNulls_eq (rec : Rec) (n : Nat) (a0 : Int) (a1 : Int) (a2 : Int) (a3 : List UInt8) : callBody C rec n 6 [OV.flat (FV.val (PV.int .i64 a0)), OV.flat (FV.val (PV.agg [PV.int .i64 a1, PV.int .i64 a2, PV.str a3]))] = f6_vestrylaw13_EvalNulls rec n a0 a1 a2 a3 := by kernel_rfl

noncomputable def f7_vestrylaw13_EvalTells (rec : Rec) (n : Nat) (a0 : Int) (a1 : Int) (a2 : List UInt8) (a3 : List UInt8) (a4 : Int) (a5 : Int) (a6 : List UInt8) (a7 : List PV) (a8 : List PV) : Option (List OV × List OV) :=
  callB (rec 8 []) fun r1 => needB (okOs Go.Proofs.Try.prog [4] [] (Prod.fst r1)) <|
  callB (rec 14 [OV.flat (FV.val (PV.agg [PV.int .i64 a0, PV.int .i64 a1, PV.str a2, PV.str a3, PV.int .i64 a4, PV.int .i64 a5, PV.str a6, PV.sl (some 8) a7])), OV.flat (FV.val (PV.int .i64 (12 : Int)))]) fun r2 => needB (okOs Go.Proofs.Try.prog [4] [] (Prod.fst r2)) <|
  ifB (!(PV.toB (FV.pv (OV.fv (List.headD (Prod.fst r2) (OV.flat FV.gone))))))
  (some ([OV.flat (FV.val (PV.bool (PV.toB (FV.pv (OV.fv (List.headD (Prod.fst r1) (OV.flat FV.gone)))))))], []))
  (needB (Nat.ble ((List.length ([] : List PV) + List.length a8) * 32) 140737488355328) <|
  needB (Nat.ble (List.length ([] : List PV) + List.length a8) 9223372036854775807) <|
  callB (rec 15 [OV.flat (FV.val (PV.agg [PV.int .i64 a0, PV.int .i64 a1, PV.str a2, PV.str a3, PV.int .i64 a4, PV.int .i64 a5, PV.str a6, PV.sl (some 8) a7])), OV.flat (FV.val (PV.sl (some 3) ([] ++ a8)))]) fun r3 => needB (okOs Go.Proofs.Try.prog [23, 25] [] (Prod.fst r3)) <|
  callB (rec 18 [OV.flat (FV.val (PV.agg [PV.int .i64 a0, PV.int .i64 a1, PV.str a2, PV.str a3, PV.int .i64 a4, PV.int .i64 a5, PV.str a6, PV.sl (some 8) a7])), OV.flat (FV.val (PV.sl (some 3) ([] ++ a8)))]) fun r4 => needB (okOs Go.Proofs.Try.prog [4, 25] [] (Prod.fst r4)) <|
  callB (rec 19 [OV.flat (FV.val (PV.agg [PV.int .i64 a0, PV.int .i64 a1, PV.str a2, PV.str a3, PV.int .i64 a4, PV.int .i64 a5, PV.str a6, PV.sl (some 8) a7])), OV.flat (FV.val (PV.sl (some 3) a8))]) fun r5 => needB (okOs Go.Proofs.Try.prog [23, 25] [] (Prod.fst r5)) <|
  callB (rec 20 [OV.flat (FV.val (PV.agg [PV.int .i64 a0, PV.int .i64 a1, PV.str a2, PV.str a3, PV.int .i64 a4, PV.int .i64 a5, PV.str a6, PV.sl (some 8) a7])), OV.flat (FV.val (PV.sl (some 3) a8))]) fun r6 => needB (okOs Go.Proofs.Try.prog [4, 25] [] (Prod.fst r6)) <|
  ifB (PV.toB (FV.pv (OV.fv (List.headD (Prod.fst r1) (OV.flat FV.gone)))))
  (callB (rec 21 [OV.flat (FV.val (PV.sl (some 3) ([] ++ a8))), OV.flat (FV.val (PV.sl (some 3) a8))]) fun r7 => needB (okOs Go.Proofs.Try.prog [4] [] (Prod.fst r7)) <|
  ifB (PV.toB (FV.pv (OV.fv (List.headD (Prod.fst r7) (OV.flat FV.gone)))))
  (ifB (((PV.toI (List.headD (PV.cells (FV.pv (OV.fv (List.headD (Prod.fst r3) (OV.flat FV.gone))))) PV.undef)) == (PV.toI (List.headD (PV.cells (FV.pv (OV.fv (List.headD (Prod.fst r5) (OV.flat FV.gone))))) PV.undef))) && (((PV.toI (List.headD (List.tail (PV.cells (FV.pv (OV.fv (List.headD (Prod.fst r3) (OV.flat FV.gone)))))) PV.undef)) == (PV.toI (List.headD (List.tail (PV.cells (FV.pv (OV.fv (List.headD (Prod.fst r5) (OV.flat FV.gone)))))) PV.undef))) && (((PV.toS (List.headD (List.tail (List.tail (PV.cells (FV.pv (OV.fv (List.headD (Prod.fst r3) (OV.flat FV.gone))))))) PV.undef)) == (PV.toS (List.headD (List.tail (List.tail (PV.cells (FV.pv (OV.fv (List.headD (Prod.fst r5) (OV.flat FV.gone))))))) PV.undef))) && (true))))
  (ifB (PV.toI (FV.pv (OV.fv (List.headD (List.tail (Prod.fst r3)) (OV.flat FV.gone)))) == PV.toI (FV.pv (OV.fv (List.headD (List.tail (Prod.fst r5)) (OV.flat FV.gone)))))
  (ifB ((PV.toB (FV.pv (OV.fv (List.headD (Prod.fst r4) (OV.flat FV.gone))))) == (PV.toB (FV.pv (OV.fv (List.headD (Prod.fst r6) (OV.flat FV.gone))))))
  (some ([OV.flat (FV.val (PV.bool (PV.toI (FV.pv (OV.fv (List.headD (List.tail (Prod.fst r4)) (OV.flat FV.gone)))) == PV.toI (FV.pv (OV.fv (List.headD (List.tail (Prod.fst r6)) (OV.flat FV.gone)))))))], []))
  (some ([OV.flat (FV.val (PV.bool false))], [])))
  (some ([OV.flat (FV.val (PV.bool false))], [])))
  (some ([OV.flat (FV.val (PV.bool false))], [])))
  (some ([OV.flat (FV.val (PV.bool false))], [])))
  (some ([OV.flat (FV.val (PV.bool false))], [])))

theorem f7_vestrylaw13_EvalTells_eq (rec : Rec) (n : Nat) (a0 : Int) (a1 : Int) (a2 : List UInt8) (a3 : List UInt8) (a4 : Int) (a5 : Int) (a6 : List UInt8) (a7 : List PV) (a8 : List PV) : callBody C rec n 7 [OV.flat (FV.val (PV.agg [PV.int .i64 a0, PV.int .i64 a1, PV.str a2, PV.str a3, PV.int .i64 a4, PV.int .i64 a5, PV.str a6, PV.sl (some 8) a7])), OV.flat (FV.val (PV.sl (some 3) a8))] = f7_vestrylaw13_EvalTells rec n a0 a1 a2 a3 a4 a5 a6 a7 a8 := by kernel_rfl

noncomputable def f8_vestrylaw13_small (rec : Rec) (n : Nat)  : Option (List OV × List OV) :=
  callB (rec 17 [OV.flat (FV.val (PV.int .i64 (0 : Int)))]) fun r1 => needB (okOs Go.Proofs.Try.prog [23] [] (Prod.fst r1)) <|
  callB (rec 9 [OV.flat (FV.val (PV.int .i64 (2 : Int))), OV.flat (FV.val (PV.agg [PV.int .i64 (0 : Int), PV.int .i64 (0 : Int), PV.str ([] : List UInt8)])), OV.flat (FV.val (PV.agg [PV.int .i64 (PV.toI (List.headD (PV.cells (FV.pv (OV.fv (List.headD (Prod.fst r1) (OV.flat FV.gone))))) PV.undef)), PV.int .i64 (PV.toI (List.headD (List.tail (PV.cells (FV.pv (OV.fv (List.headD (Prod.fst r1) (OV.flat FV.gone)))))) PV.undef)), PV.str (PV.toS (List.headD (List.tail (List.tail (PV.cells (FV.pv (OV.fv (List.headD (Prod.fst r1) (OV.flat FV.gone))))))) PV.undef))]))]) fun r2 => needB (okOs Go.Proofs.Try.prog [23, 25] [] (Prod.fst r2)) <|
  callB (rec 9 [OV.flat (FV.val (PV.int .i64 (1 : Int))), OV.flat (FV.val (PV.agg [PV.int .i64 (0 : Int), PV.int .i64 (0 : Int), PV.str ([] : List UInt8)])), OV.flat (FV.val (PV.agg [PV.int .i64 (PV.toI (List.headD (PV.cells (FV.pv (OV.fv (List.headD (Prod.fst r1) (OV.flat FV.gone))))) PV.undef)), PV.int .i64 (PV.toI (List.headD (List.tail (PV.cells (FV.pv (OV.fv (List.headD (Prod.fst r1) (OV.flat FV.gone)))))) PV.undef)), PV.str (PV.toS (List.headD (List.tail (List.tail (PV.cells (FV.pv (OV.fv (List.headD (Prod.fst r1) (OV.flat FV.gone))))))) PV.undef))]))]) fun r3 => needB (okOs Go.Proofs.Try.prog [23, 25] [] (Prod.fst r3)) <|
  callB (rec 17 [OV.flat (FV.val (PV.int .i64 (9223372036854775807 : Int)))]) fun r4 => needB (okOs Go.Proofs.Try.prog [23] [] (Prod.fst r4)) <|
  callB (rec 17 [OV.flat (FV.val (PV.int .i64 (1 : Int)))]) fun r5 => needB (okOs Go.Proofs.Try.prog [23] [] (Prod.fst r5)) <|
  callB (rec 9 [OV.flat (FV.val (PV.int .i64 (9 : Int))), OV.flat (FV.val (PV.agg [PV.int .i64 (PV.toI (List.headD (PV.cells (FV.pv (OV.fv (List.headD (Prod.fst r4) (OV.flat FV.gone))))) PV.undef)), PV.int .i64 (PV.toI (List.headD (List.tail (PV.cells (FV.pv (OV.fv (List.headD (Prod.fst r4) (OV.flat FV.gone)))))) PV.undef)), PV.str (PV.toS (List.headD (List.tail (List.tail (PV.cells (FV.pv (OV.fv (List.headD (Prod.fst r4) (OV.flat FV.gone))))))) PV.undef))])), OV.flat (FV.val (PV.agg [PV.int .i64 (PV.toI (List.headD (PV.cells (FV.pv (OV.fv (List.headD (Prod.fst r5) (OV.flat FV.gone))))) PV.undef)), PV.int .i64 (PV.toI (List.headD (List.tail (PV.cells (FV.pv (OV.fv (List.headD (Prod.fst r5) (OV.flat FV.gone)))))) PV.undef)), PV.str (PV.toS (List.headD (List.tail (List.tail (PV.cells (FV.pv (OV.fv (List.headD (Prod.fst r5) (OV.flat FV.gone))))))) PV.undef))]))]) fun r6 => needB (okOs Go.Proofs.Try.prog [23, 25] [] (Prod.fst r6)) <|
  callB (rec 17 [OV.flat (FV.val (PV.int .i64 (-7 : Int)))]) fun r7 => needB (okOs Go.Proofs.Try.prog [23] [] (Prod.fst r7)) <|
  callB (rec 17 [OV.flat (FV.val (PV.int .i64 (2 : Int)))]) fun r8 => needB (okOs Go.Proofs.Try.prog [23] [] (Prod.fst r8)) <|
  callB (rec 9 [OV.flat (FV.val (PV.int .i64 (12 : Int))), OV.flat (FV.val (PV.agg [PV.int .i64 (PV.toI (List.headD (PV.cells (FV.pv (OV.fv (List.headD (Prod.fst r7) (OV.flat FV.gone))))) PV.undef)), PV.int .i64 (PV.toI (List.headD (List.tail (PV.cells (FV.pv (OV.fv (List.headD (Prod.fst r7) (OV.flat FV.gone)))))) PV.undef)), PV.str (PV.toS (List.headD (List.tail (List.tail (PV.cells (FV.pv (OV.fv (List.headD (Prod.fst r7) (OV.flat FV.gone))))))) PV.undef))])), OV.flat (FV.val (PV.agg [PV.int .i64 (PV.toI (List.headD (PV.cells (FV.pv (OV.fv (List.headD (Prod.fst r8) (OV.flat FV.gone))))) PV.undef)), PV.int .i64 (PV.toI (List.headD (List.tail (PV.cells (FV.pv (OV.fv (List.headD (Prod.fst r8) (OV.flat FV.gone)))))) PV.undef)), PV.str (PV.toS (List.headD (List.tail (List.tail (PV.cells (FV.pv (OV.fv (List.headD (Prod.fst r8) (OV.flat FV.gone))))))) PV.undef))]))]) fun r9 => needB (okOs Go.Proofs.Try.prog [23, 25] [] (Prod.fst r9)) <|
  callB (rec 22 [OV.flat (FV.val (PV.str ([97] : List UInt8)))]) fun r10 => needB (okOs Go.Proofs.Try.prog [23] [] (Prod.fst r10)) <|
  callB (rec 9 [OV.flat (FV.val (PV.int .i64 (5 : Int))), OV.flat (FV.val (PV.agg [PV.int .i64 (PV.toI (List.headD (PV.cells (FV.pv (OV.fv (List.headD (Prod.fst r1) (OV.flat FV.gone))))) PV.undef)), PV.int .i64 (PV.toI (List.headD (List.tail (PV.cells (FV.pv (OV.fv (List.headD (Prod.fst r1) (OV.flat FV.gone)))))) PV.undef)), PV.str (PV.toS (List.headD (List.tail (List.tail (PV.cells (FV.pv (OV.fv (List.headD (Prod.fst r1) (OV.flat FV.gone))))))) PV.undef))])), OV.flat (FV.val (PV.agg [PV.int .i64 (PV.toI (List.headD (PV.cells (FV.pv (OV.fv (List.headD (Prod.fst r10) (OV.flat FV.gone))))) PV.undef)), PV.int .i64 (PV.toI (List.headD (List.tail (PV.cells (FV.pv (OV.fv (List.headD (Prod.fst r10) (OV.flat FV.gone)))))) PV.undef)), PV.str (PV.toS (List.headD (List.tail (List.tail (PV.cells (FV.pv (OV.fv (List.headD (Prod.fst r10) (OV.flat FV.gone))))))) PV.undef))]))]) fun r11 => needB (okOs Go.Proofs.Try.prog [23, 25] [] (Prod.fst r11)) <|
  ifB (PV.toI (FV.pv (OV.fv (List.headD (List.tail (Prod.fst r2)) (OV.flat FV.gone)))) == (0 : Int))
  (ifB (((PV.toI (List.headD (PV.cells (FV.pv (OV.fv (List.headD (Prod.fst r2) (OV.flat FV.gone))))) PV.undef)) == (PV.toI (List.headD (PV.cells (FV.pv (OV.fv (List.headD (Prod.fst r1) (OV.flat FV.gone))))) PV.undef))) && (((PV.toI (List.headD (List.tail (PV.cells (FV.pv (OV.fv (List.headD (Prod.fst r2) (OV.flat FV.gone)))))) PV.undef)) == (PV.toI (List.headD (List.tail (PV.cells (FV.pv (OV.fv (List.headD (Prod.fst r1) (OV.flat FV.gone)))))) PV.undef))) && (((PV.toS (List.headD (List.tail (List.tail (PV.cells (FV.pv (OV.fv (List.headD (Prod.fst r2) (OV.flat FV.gone))))))) PV.undef)) == (PV.toS (List.headD (List.tail (List.tail (PV.cells (FV.pv (OV.fv (List.headD (Prod.fst r1) (OV.flat FV.gone))))))) PV.undef))) && (true))))
  (ifB (PV.toI (FV.pv (OV.fv (List.headD (List.tail (Prod.fst r3)) (OV.flat FV.gone)))) == (0 : Int))
  (ifB (((PV.toI (List.headD (PV.cells (FV.pv (OV.fv (List.headD (Prod.fst r3) (OV.flat FV.gone))))) PV.undef)) == (0 : Int)) && (((PV.toI (List.headD (List.tail (PV.cells (FV.pv (OV.fv (List.headD (Prod.fst r3) (OV.flat FV.gone)))))) PV.undef)) == (0 : Int)) && (((PV.toS (List.headD (List.tail (List.tail (PV.cells (FV.pv (OV.fv (List.headD (Prod.fst r3) (OV.flat FV.gone))))))) PV.undef)) == ([] : List UInt8)) && (true))))
  (ifB (PV.toI (FV.pv (OV.fv (List.headD (List.tail (Prod.fst r6)) (OV.flat FV.gone)))) == (7 : Int))
  (ifB (PV.toI (FV.pv (OV.fv (List.headD (List.tail (Prod.fst r9)) (OV.flat FV.gone)))) == (0 : Int))
  (callB (rec 17 [OV.flat (FV.val (PV.int .i64 (-3 : Int)))]) fun r12 => needB (okOs Go.Proofs.Try.prog [23] [] (Prod.fst r12)) <|
  ifB (((PV.toI (List.headD (PV.cells (FV.pv (OV.fv (List.headD (Prod.fst r9) (OV.flat FV.gone))))) PV.undef)) == (PV.toI (List.headD (PV.cells (FV.pv (OV.fv (List.headD (Prod.fst r12) (OV.flat FV.gone))))) PV.undef))) && (((PV.toI (List.headD (List.tail (PV.cells (FV.pv (OV.fv (List.headD (Prod.fst r9) (OV.flat FV.gone)))))) PV.undef)) == (PV.toI (List.headD (List.tail (PV.cells (FV.pv (OV.fv (List.headD (Prod.fst r12) (OV.flat FV.gone)))))) PV.undef))) && (((PV.toS (List.headD (List.tail (List.tail (PV.cells (FV.pv (OV.fv (List.headD (Prod.fst r9) (OV.flat FV.gone))))))) PV.undef)) == (PV.toS (List.headD (List.tail (List.tail (PV.cells (FV.pv (OV.fv (List.headD (Prod.fst r12) (OV.flat FV.gone))))))) PV.undef))) && (true))))
  (some ([OV.flat (FV.val (PV.bool (PV.toI (FV.pv (OV.fv (List.headD (List.tail (Prod.fst r11)) (OV.flat FV.gone)))) == (9 : Int))))], []))
  (some ([OV.flat (FV.val (PV.bool false))], [])))
  (some ([OV.flat (FV.val (PV.bool false))], [])))
  (some ([OV.flat (FV.val (PV.bool false))], [])))
  (some ([OV.flat (FV.val (PV.bool false))], [])))
  (some ([OV.flat (FV.val (PV.bool false))], [])))
  (some ([OV.flat (FV.val (PV.bool false))], [])))
  (some ([OV.flat (FV.val (PV.bool false))], []))

theorem f8_vestrylaw13_small_eq (rec : Rec) (n : Nat)  : callBody C rec n 8 [] = f8_vestrylaw13_small rec n  := by kernel_rfl

noncomputable def f9_eval_Op (rec : Rec) (n : Nat) (a0 : Int) (a1 : Int) (a2 : Int) (a3 : List UInt8) (a4 : Int) (a5 : Int) (a6 : List UInt8) : Option (List OV × List OV) :=
  ifB (decide (a0 < (1 : Int)))
  (some ([OV.flat (FV.val (PV.agg [PV.int .i64 (0 : Int), PV.int .i64 (0 : Int), PV.str ([] : List UInt8)])), OV.flat (FV.val (PV.int .i64 (4 : Int)))], []))
  (ifB (decide (a0 > (13 : Int)))
  (some ([OV.flat (FV.val (PV.agg [PV.int .i64 (0 : Int), PV.int .i64 (0 : Int), PV.str ([] : List UInt8)])), OV.flat (FV.val (PV.int .i64 (4 : Int)))], []))
  (callB (rec 11 [OV.flat (FV.val (PV.agg [PV.int .i64 a1, PV.int .i64 a2, PV.str a3]))]) fun r1 => needB (okOs Go.Proofs.Try.prog [25] [] (Prod.fst r1)) <|
  ifB (PV.toI (FV.pv (OV.fv (List.headD (Prod.fst r1) (OV.flat FV.gone)))) != (0 : Int))
  (some ([OV.flat (FV.val (PV.agg [PV.int .i64 (0 : Int), PV.int .i64 (0 : Int), PV.str ([] : List UInt8)])), OV.flat (FV.val (PV.int .i64 (4 : Int)))], []))
  (callB (rec 11 [OV.flat (FV.val (PV.agg [PV.int .i64 a4, PV.int .i64 a5, PV.str a6]))]) fun r2 => needB (okOs Go.Proofs.Try.prog [25] [] (Prod.fst r2)) <|
  ifB (PV.toI (FV.pv (OV.fv (List.headD (Prod.fst r2) (OV.flat FV.gone)))) != (0 : Int))
  (some ([OV.flat (FV.val (PV.agg [PV.int .i64 (0 : Int), PV.int .i64 (0 : Int), PV.str ([] : List UInt8)])), OV.flat (FV.val (PV.int .i64 (4 : Int)))], []))
  (ifB (decide (a0 ≤ (2 : Int)))
  (callB (rec 23 [OV.flat (FV.val (PV.int .i64 a0)), OV.flat (FV.val (PV.agg [PV.int .i64 a1, PV.int .i64 a2, PV.str a3])), OV.flat (FV.val (PV.agg [PV.int .i64 a4, PV.int .i64 a5, PV.str a6]))]) fun r3 => needB (okOs Go.Proofs.Try.prog [23, 25] [] (Prod.fst r3)) <|
  some ([OV.flat (FV.val (PV.agg [PV.int .i64 (PV.toI (List.headD (PV.cells (FV.pv (OV.fv (List.headD (Prod.fst r3) (OV.flat FV.gone))))) PV.undef)), PV.int .i64 (PV.toI (List.headD (List.tail (PV.cells (FV.pv (OV.fv (List.headD (Prod.fst r3) (OV.flat FV.gone)))))) PV.undef)), PV.str (PV.toS (List.headD (List.tail (List.tail (PV.cells (FV.pv (OV.fv (List.headD (Prod.fst r3) (OV.flat FV.gone))))))) PV.undef))])), OV.flat (FV.val (PV.int .i64 (PV.toI (FV.pv (OV.fv (List.headD (List.tail (Prod.fst r3)) (OV.flat FV.gone)))))))], []))
  (ifB (a1 == (0 : Int))
  (some ([OV.flat (FV.val (PV.agg [PV.int .i64 (0 : Int), PV.int .i64 (0 : Int), PV.str ([] : List UInt8)])), OV.flat (FV.val (PV.int .i64 (0 : Int)))], []))
  (ifB (a4 == (0 : Int))
  (some ([OV.flat (FV.val (PV.agg [PV.int .i64 (0 : Int), PV.int .i64 (0 : Int), PV.str ([] : List UInt8)])), OV.flat (FV.val (PV.int .i64 (0 : Int)))], []))
  (ifB (decide (a0 ≤ (8 : Int)))
  (callB (rec 24 [OV.flat (FV.val (PV.int .i64 a0)), OV.flat (FV.val (PV.agg [PV.int .i64 a1, PV.int .i64 a2, PV.str a3])), OV.flat (FV.val (PV.agg [PV.int .i64 a4, PV.int .i64 a5, PV.str a6]))]) fun r4 => needB (okOs Go.Proofs.Try.prog [23, 25] [] (Prod.fst r4)) <|
  some ([OV.flat (FV.val (PV.agg [PV.int .i64 (PV.toI (List.headD (PV.cells (FV.pv (OV.fv (List.headD (Prod.fst r4) (OV.flat FV.gone))))) PV.undef)), PV.int .i64 (PV.toI (List.headD (List.tail (PV.cells (FV.pv (OV.fv (List.headD (Prod.fst r4) (OV.flat FV.gone)))))) PV.undef)), PV.str (PV.toS (List.headD (List.tail (List.tail (PV.cells (FV.pv (OV.fv (List.headD (Prod.fst r4) (OV.flat FV.gone))))))) PV.undef))])), OV.flat (FV.val (PV.int .i64 (PV.toI (FV.pv (OV.fv (List.headD (List.tail (Prod.fst r4)) (OV.flat FV.gone)))))))], []))
  (ifB (a1 == (2 : Int))
  (some ([OV.flat (FV.val (PV.agg [PV.int .i64 (0 : Int), PV.int .i64 (0 : Int), PV.str ([] : List UInt8)])), OV.flat (FV.val (PV.int .i64 (9 : Int)))], []))
  (ifB (a4 == (2 : Int))
  (some ([OV.flat (FV.val (PV.agg [PV.int .i64 (0 : Int), PV.int .i64 (0 : Int), PV.str ([] : List UInt8)])), OV.flat (FV.val (PV.int .i64 (9 : Int)))], []))
  (callB (rec 26 [OV.flat (FV.val (PV.int .i64 a0)), OV.flat (FV.val (PV.int .i64 a2)), OV.flat (FV.val (PV.int .i64 a5))]) fun r5 => needB (okOs Go.Proofs.Try.prog [3, 25] [] (Prod.fst r5)) <|
  callB (rec 25 [OV.flat (FV.val (PV.int .i64 (PV.toI (FV.pv (OV.fv (List.headD (Prod.fst r5) (OV.flat FV.gone))))))), OV.flat (FV.val (PV.int .i64 (PV.toI (FV.pv (OV.fv (List.headD (List.tail (Prod.fst r5)) (OV.flat FV.gone)))))))]) fun r6 => needB (okOs Go.Proofs.Try.prog [23, 25] [] (Prod.fst r6)) <|
  some ([OV.flat (FV.val (PV.agg [PV.int .i64 (PV.toI (List.headD (PV.cells (FV.pv (OV.fv (List.headD (Prod.fst r6) (OV.flat FV.gone))))) PV.undef)), PV.int .i64 (PV.toI (List.headD (List.tail (PV.cells (FV.pv (OV.fv (List.headD (Prod.fst r6) (OV.flat FV.gone)))))) PV.undef)), PV.str (PV.toS (List.headD (List.tail (List.tail (PV.cells (FV.pv (OV.fv (List.headD (Prod.fst r6) (OV.flat FV.gone))))))) PV.undef))])), OV.flat (FV.val (PV.int .i64 (PV.toI (FV.pv (OV.fv (List.headD (List.tail (Prod.fst r6)) (OV.flat FV.gone)))))))], [])))))))))))

theorem f9_eval_Op_eq (rec : Rec) (n : Nat) (a0 : Int) (a1 : Int) (a2 : Int) (a3 : List UInt8) (a4 : Int) (a5 : Int) (a6 : List UInt8) : callBody C rec n 9 [OV.flat (FV.val (PV.int .i64 a0)), OV.flat (FV.val (PV.agg [PV.int .i64 a1, PV.int .i64 a2, PV.str a3])), OV.flat (FV.val (PV.agg [PV.int .i64 a4, PV.int .i64 a5, PV.str a6]))] = f9_eval_Op rec n a0 a1 a2 a3 a4 a5 a6 := by kernel_rfl

noncomputable def f10_vestryref13_Op (rec : Rec) (n : Nat) (a0 : Int) (a1 : Int) (a2 : Int) (a3 : List UInt8) (a4 : Int) (a5 : Int) (a6 : List UInt8) : Option (List OV × List OV) :=
  ifB (decide (a0 < (1 : Int)))
  (some ([OV.flat (FV.val (PV.agg [PV.int .i64 (0 : Int), PV.int .i64 (0 : Int), PV.str ([] : List UInt8)])), OV.flat (FV.val (PV.int .i64 (4 : Int)))], []))
  (ifB (decide (a0 > (13 : Int)))
  (some ([OV.flat (FV.val (PV.agg [PV.int .i64 (0 : Int), PV.int .i64 (0 : Int), PV.str ([] : List UInt8)])), OV.flat (FV.val (PV.int .i64 (4 : Int)))], []))
  (callB (rec 27 [OV.flat (FV.val (PV.agg [PV.int .i64 a1, PV.int .i64 a2, PV.str a3]))]) fun r1 => needB (okOs Go.Proofs.Try.prog [25] [] (Prod.fst r1)) <|
  ifB (PV.toI (FV.pv (OV.fv (List.headD (Prod.fst r1) (OV.flat FV.gone)))) != (0 : Int))
  (some ([OV.flat (FV.val (PV.agg [PV.int .i64 (0 : Int), PV.int .i64 (0 : Int), PV.str ([] : List UInt8)])), OV.flat (FV.val (PV.int .i64 (4 : Int)))], []))
  (callB (rec 27 [OV.flat (FV.val (PV.agg [PV.int .i64 a4, PV.int .i64 a5, PV.str a6]))]) fun r2 => needB (okOs Go.Proofs.Try.prog [25] [] (Prod.fst r2)) <|
  ifB (PV.toI (FV.pv (OV.fv (List.headD (Prod.fst r2) (OV.flat FV.gone)))) != (0 : Int))
  (some ([OV.flat (FV.val (PV.agg [PV.int .i64 (0 : Int), PV.int .i64 (0 : Int), PV.str ([] : List UInt8)])), OV.flat (FV.val (PV.int .i64 (4 : Int)))], []))
  (ifB (decide (a0 ≤ (2 : Int)))
  (callB (rec 28 [OV.flat (FV.val (PV.int .i64 a0)), OV.flat (FV.val (PV.agg [PV.int .i64 a1, PV.int .i64 a2, PV.str a3])), OV.flat (FV.val (PV.agg [PV.int .i64 a4, PV.int .i64 a5, PV.str a6]))]) fun r3 => needB (okOs Go.Proofs.Try.prog [23, 25] [] (Prod.fst r3)) <|
  some ([OV.flat (FV.val (PV.agg [PV.int .i64 (PV.toI (List.headD (PV.cells (FV.pv (OV.fv (List.headD (Prod.fst r3) (OV.flat FV.gone))))) PV.undef)), PV.int .i64 (PV.toI (List.headD (List.tail (PV.cells (FV.pv (OV.fv (List.headD (Prod.fst r3) (OV.flat FV.gone)))))) PV.undef)), PV.str (PV.toS (List.headD (List.tail (List.tail (PV.cells (FV.pv (OV.fv (List.headD (Prod.fst r3) (OV.flat FV.gone))))))) PV.undef))])), OV.flat (FV.val (PV.int .i64 (PV.toI (FV.pv (OV.fv (List.headD (List.tail (Prod.fst r3)) (OV.flat FV.gone)))))))], []))
  (ifB (a1 == (0 : Int))
  (some ([OV.flat (FV.val (PV.agg [PV.int .i64 (0 : Int), PV.int .i64 (0 : Int), PV.str ([] : List UInt8)])), OV.flat (FV.val (PV.int .i64 (0 : Int)))], []))
  (ifB (a4 == (0 : Int))
  (some ([OV.flat (FV.val (PV.agg [PV.int .i64 (0 : Int), PV.int .i64 (0 : Int), PV.str ([] : List UInt8)])), OV.flat (FV.val (PV.int .i64 (0 : Int)))], []))
  (ifB (decide (a0 ≤ (8 : Int)))
  (ifB (a1 != a4)
  (some ([OV.flat (FV.val (PV.agg [PV.int .i64 (0 : Int), PV.int .i64 (0 : Int), PV.str ([] : List UInt8)])), OV.flat (FV.val (PV.int .i64 (9 : Int)))], []))
  (callB (rec 29 [OV.flat (FV.val (PV.int .i64 a0)), OV.flat (FV.val (PV.agg [PV.int .i64 a1, PV.int .i64 a2, PV.str a3])), OV.flat (FV.val (PV.agg [PV.int .i64 a4, PV.int .i64 a5, PV.str a6]))]) fun r4 => needB (okOs Go.Proofs.Try.prog [23] [] (Prod.fst r4)) <|
  some ([OV.flat (FV.val (PV.agg [PV.int .i64 (PV.toI (List.headD (PV.cells (FV.pv (OV.fv (List.headD (Prod.fst r4) (OV.flat FV.gone))))) PV.undef)), PV.int .i64 (PV.toI (List.headD (List.tail (PV.cells (FV.pv (OV.fv (List.headD (Prod.fst r4) (OV.flat FV.gone)))))) PV.undef)), PV.str (PV.toS (List.headD (List.tail (List.tail (PV.cells (FV.pv (OV.fv (List.headD (Prod.fst r4) (OV.flat FV.gone))))))) PV.undef))])), OV.flat (FV.val (PV.int .i64 (0 : Int)))], [])))
  (ifB (a1 == (2 : Int))
  (some ([OV.flat (FV.val (PV.agg [PV.int .i64 (0 : Int), PV.int .i64 (0 : Int), PV.str ([] : List UInt8)])), OV.flat (FV.val (PV.int .i64 (9 : Int)))], []))
  (ifB (a4 == (2 : Int))
  (some ([OV.flat (FV.val (PV.agg [PV.int .i64 (0 : Int), PV.int .i64 (0 : Int), PV.str ([] : List UInt8)])), OV.flat (FV.val (PV.int .i64 (9 : Int)))], []))
  (callB (rec 30 [OV.flat (FV.val (PV.int .i64 a0)), OV.flat (FV.val (PV.int .i64 a2)), OV.flat (FV.val (PV.int .i64 a5))]) fun r5 => needB (okOs Go.Proofs.Try.prog [3, 25] [] (Prod.fst r5)) <|
  ifB (PV.toI (FV.pv (OV.fv (List.headD (List.tail (Prod.fst r5)) (OV.flat FV.gone)))) != (0 : Int))
  (some ([OV.flat (FV.val (PV.agg [PV.int .i64 (0 : Int), PV.int .i64 (0 : Int), PV.str ([] : List UInt8)])), OV.flat (FV.val (PV.int .i64 (PV.toI (FV.pv (OV.fv (List.headD (List.tail (Prod.fst r5)) (OV.flat FV.gone)))))))], []))
  (callB (rec 31 [OV.flat (FV.val (PV.int .i64 (PV.toI (FV.pv (OV.fv (List.headD (Prod.fst r5) (OV.flat FV.gone)))))))]) fun r6 => needB (okOs Go.Proofs.Try.prog [23] [] (Prod.fst r6)) <|
  some ([OV.flat (FV.val (PV.agg [PV.int .i64 (PV.toI (List.headD (PV.cells (FV.pv (OV.fv (List.headD (Prod.fst r6) (OV.flat FV.gone))))) PV.undef)), PV.int .i64 (PV.toI (List.headD (List.tail (PV.cells (FV.pv (OV.fv (List.headD (Prod.fst r6) (OV.flat FV.gone)))))) PV.undef)), PV.str (PV.toS (List.headD (List.tail (List.tail (PV.cells (FV.pv (OV.fv (List.headD (Prod.fst r6) (OV.flat FV.gone))))))) PV.undef))])), OV.flat (FV.val (PV.int .i64 (0 : Int)))], []))))))))))))

theorem f10_vestryref13_Op_eq (rec : Rec) (n : Nat) (a0 : Int) (a1 : Int) (a2 : Int) (a3 : List UInt8) (a4 : Int) (a5 : Int) (a6 : List UInt8) : callBody C rec n 10 [OV.flat (FV.val (PV.int .i64 a0)), OV.flat (FV.val (PV.agg [PV.int .i64 a1, PV.int .i64 a2, PV.str a3])), OV.flat (FV.val (PV.agg [PV.int .i64 a4, PV.int .i64 a5, PV.str a6]))] = f10_vestryref13_Op rec n a0 a1 a2 a3 a4 a5 a6 := by kernel_rfl

noncomputable def f11_value_Right (rec : Rec) (n : Nat) (a0 : Int) (a1 : Int) (a2 : List UInt8) : Option (List OV × List OV) :=
  ifB (decide (a0 < (0 : Int)))
  (some ([OV.flat (FV.val (PV.int .i64 (4 : Int)))], []))
  (ifB (decide (a0 > (2 : Int)))
  (some ([OV.flat (FV.val (PV.int .i64 (4 : Int)))], []))
  (callB (rec 32 [OV.flat (FV.val (PV.agg [PV.int .i64 a0, PV.int .i64 a1, PV.str a2]))]) fun r1 => needB (okOs Go.Proofs.Try.prog [23] [] (Prod.fst r1)) <|
  ifB (!((a0 == (PV.toI (List.headD (PV.cells (FV.pv (OV.fv (List.headD (Prod.fst r1) (OV.flat FV.gone))))) PV.undef))) && ((a1 == (PV.toI (List.headD (List.tail (PV.cells (FV.pv (OV.fv (List.headD (Prod.fst r1) (OV.flat FV.gone)))))) PV.undef))) && ((a2 == (PV.toS (List.headD (List.tail (List.tail (PV.cells (FV.pv (OV.fv (List.headD (Prod.fst r1) (OV.flat FV.gone))))))) PV.undef))) && (true)))))
  (some ([OV.flat (FV.val (PV.int .i64 (4 : Int)))], []))
  (ifB (decide (((List.length a2 : Nat) : Int) > (40 : Int)))
  (some ([OV.flat (FV.val (PV.int .i64 (2 : Int)))], []))
  (some ([OV.flat (FV.val (PV.int .i64 (0 : Int)))], [])))))

theorem f11_value_Right_eq (rec : Rec) (n : Nat) (a0 : Int) (a1 : Int) (a2 : List UInt8) : callBody C rec n 11 [OV.flat (FV.val (PV.agg [PV.int .i64 a0, PV.int .i64 a1, PV.str a2]))] = f11_value_Right rec n a0 a1 a2 := by kernel_rfl

noncomputable def f12_vestrylaw13_op (rec : Rec) (n : Nat) (a0 : Int) (a1 : Int) (a2 : Int) (a3 : List UInt8) (a4 : Int) (a5 : Int) (a6 : List UInt8) : Option (List OV × List OV) :=
  callB (rec 9 [OV.flat (FV.val (PV.int .i64 a0)), OV.flat (FV.val (PV.agg [PV.int .i64 a1, PV.int .i64 a2, PV.str a3])), OV.flat (FV.val (PV.agg [PV.int .i64 a4, PV.int .i64 a5, PV.str a6]))]) fun r1 => needB (okOs Go.Proofs.Try.prog [23, 25] [] (Prod.fst r1)) <|
  ifB (PV.toI (FV.pv (OV.fv (List.headD (List.tail (Prod.fst r1)) (OV.flat FV.gone)))) != (0 : Int))
  (some ([OV.flat (FV.val (PV.agg [PV.int .i64 (IntKind.wrap .i64 ((0 : Int) - PV.toI (FV.pv (OV.fv (List.headD (List.tail (Prod.fst r1)) (OV.flat FV.gone)))))), PV.int .i64 (0 : Int), PV.str ([] : List UInt8)]))], []))
  (some ([OV.flat (FV.val (PV.agg [PV.int .i64 (PV.toI (List.headD (PV.cells (FV.pv (OV.fv (List.headD (Prod.fst r1) (OV.flat FV.gone))))) PV.undef)), PV.int .i64 (PV.toI (List.headD (List.tail (PV.cells (FV.pv (OV.fv (List.headD (Prod.fst r1) (OV.flat FV.gone)))))) PV.undef)), PV.str (PV.toS (List.headD (List.tail (List.tail (PV.cells (FV.pv (OV.fv (List.headD (Prod.fst r1) (OV.flat FV.gone))))))) PV.undef))]))], []))

theorem f12_vestrylaw13_op_eq (rec : Rec) (n : Nat) (a0 : Int) (a1 : Int) (a2 : Int) (a3 : List UInt8) (a4 : Int) (a5 : Int) (a6 : List UInt8) : callBody C rec n 12 [OV.flat (FV.val (PV.int .i64 a0)), OV.flat (FV.val (PV.agg [PV.int .i64 a1, PV.int .i64 a2, PV.str a3])), OV.flat (FV.val (PV.agg [PV.int .i64 a4, PV.int .i64 a5, PV.str a6]))] = f12_vestrylaw13_op rec n a0 a1 a2 a3 a4 a5 a6 := by kernel_rfl

noncomputable def f13_vestrylaw13_not (rec : Rec) (n : Nat) (a0 : Int) (a1 : Int) (a2 : List UInt8) : Option (List OV × List OV) :=
  callB (rec 15 [OV.flat (FV.val (PV.agg [PV.int .i64 (4 : Int), PV.int .i64 (0 : Int), PV.str ([] : List UInt8), PV.str ([] : List UInt8), PV.int .i64 (0 : Int), PV.int .i64 (0 : Int), PV.str ([] : List UInt8), PV.sl (some 8) [PV.agg [PV.int .i64 (1 : Int), PV.int .i64 (0 : Int), PV.str ([] : List UInt8), PV.str ([] : List UInt8), PV.int .i64 a0, PV.int .i64 a1, PV.str a2, PV.sl (some 8) []]]])), OV.flat (FV.val (PV.sl (some 3) []))]) fun r1 => needB (okOs Go.Proofs.Try.prog [23, 25] [] (Prod.fst r1)) <|
  ifB (PV.toI (FV.pv (OV.fv (List.headD (List.tail (Prod.fst r1)) (OV.flat FV.gone)))) != (0 : Int))
  (some ([OV.flat (FV.val (PV.agg [PV.int .i64 (IntKind.wrap .i64 ((0 : Int) - PV.toI (FV.pv (OV.fv (List.headD (List.tail (Prod.fst r1)) (OV.flat FV.gone)))))), PV.int .i64 (0 : Int), PV.str ([] : List UInt8)]))], []))
  (some ([OV.flat (FV.val (PV.agg [PV.int .i64 (PV.toI (List.headD (PV.cells (FV.pv (OV.fv (List.headD (Prod.fst r1) (OV.flat FV.gone))))) PV.undef)), PV.int .i64 (PV.toI (List.headD (List.tail (PV.cells (FV.pv (OV.fv (List.headD (Prod.fst r1) (OV.flat FV.gone)))))) PV.undef)), PV.str (PV.toS (List.headD (List.tail (List.tail (PV.cells (FV.pv (OV.fv (List.headD (Prod.fst r1) (OV.flat FV.gone))))))) PV.undef))]))], []))

theorem f13_vestrylaw13_not_eq (rec : Rec) (n : Nat) (a0 : Int) (a1 : Int) (a2 : List UInt8) : callBody C rec n 13 [OV.flat (FV.val (PV.agg [PV.int .i64 a0, PV.int .i64 a1, PV.str a2]))] = f13_vestrylaw13_not rec n a0 a1 a2 := by kernel_rfl

noncomputable def f14_vestrylaw13_few.l0.step (rec : Rec) (n : Nat) (self_l0 : Int → Int → Int → List UInt8 → List UInt8 → Int → Int → List UInt8 → List PV → Int → Option (List OV × List OV)) (x0 : Int) (x1 : Int) (x2 : Int) (x3 : List UInt8) (x4 : List UInt8) (x5 : Int) (x6 : Int) (x7 : List UInt8) (x8 : List PV) (x9 : Int) : Option (List OV × List OV) :=
  ifB (decide (x9 < ((List.length x8 : Nat) : Int)))
  (needB (decide ((0 : Int) ≤ x9)) <|
  needB (decide (x9 < ((List.length x8 : Nat) : Int))) <|
  needB (hasT Go.Proofs.Try.prog 35 (nthP x8 (Int.toNat x9))) <|
  callB (rec 14 [OV.flat (FV.val (PV.agg [PV.int .i64 (PV.toI (List.headD (PV.cells (nthP x8 (Int.toNat x9))) PV.undef)), PV.int .i64 (PV.toI (List.headD (List.tail (PV.cells (nthP x8 (Int.toNat x9)))) PV.undef)), PV.str (PV.toS (List.headD (List.tail (List.tail (PV.cells (nthP x8 (Int.toNat x9))))) PV.undef)), PV.str (PV.toS (List.headD (List.tail (List.tail (List.tail (PV.cells (nthP x8 (Int.toNat x9)))))) PV.undef)), PV.int .i64 (PV.toI (List.headD (List.tail (List.tail (List.tail (List.tail (PV.cells (nthP x8 (Int.toNat x9))))))) PV.undef)), PV.int .i64 (PV.toI (List.headD (List.tail (List.tail (List.tail (List.tail (List.tail (PV.cells (nthP x8 (Int.toNat x9)))))))) PV.undef)), PV.str (PV.toS (List.headD (List.tail (List.tail (List.tail (List.tail (List.tail (List.tail (PV.cells (nthP x8 (Int.toNat x9))))))))) PV.undef)), PV.sl (some 8) (PV.toL (List.headD (List.tail (List.tail (List.tail (List.tail (List.tail (List.tail (List.tail (PV.cells (nthP x8 (Int.toNat x9)))))))))) PV.undef))])), OV.flat (FV.val (PV.int .i64 (IntKind.wrap .i64 (x0 - (1 : Int)))))]) fun r1 => needB (okOs Go.Proofs.Try.prog [4] [] (Prod.fst r1)) <|
  ifB (!(PV.toB (FV.pv (OV.fv (List.headD (Prod.fst r1) (OV.flat FV.gone))))))
  (some ([OV.flat (FV.val (PV.bool false))], []))
  (self_l0 x0 x1 x2 x3 x4 x5 x6 x7 x8 (IntKind.wrap .i64 (x9 + (1 : Int)))))
  (some ([OV.flat (FV.val (PV.bool true))], []))

noncomputable def f14_vestrylaw13_few.l0 (rec : Rec) (n : Nat) : Nat → Int → Int → Int → List UInt8 → List UInt8 → Int → Int → List UInt8 → List PV → Int → Option (List OV × List OV)
  | 0, _, _, _, _, _, _, _, _, _, _ => none
  | m + 1, x0, x1, x2, x3, x4, x5, x6, x7, x8, x9 => f14_vestrylaw13_few.l0.step rec n (f14_vestrylaw13_few.l0 rec n m) x0 x1 x2 x3 x4 x5 x6 x7 x8 x9

theorem f14_vestrylaw13_few.l0_eq (rec : Rec) (n : Nat) : ∀ (m : Nat) (x0 : Int) (x1 : Int) (x2 : Int) (x3 : List UInt8) (x4 : List UInt8) (x5 : Int) (x6 : Int) (x7 : List UInt8) (x8 : List PV) (x9 : Int), loopAt C rec n 14 [1, 1, 0, 1, 0] [] m [(1, SV.home (OV.flat (FV.val (PV.int .i64 x0)))), (2, SV.home (OV.cont .box [FV.val (PV.int .i64 x1), FV.val (PV.int .i64 x2), FV.val (PV.str x3), FV.val (PV.str x4), FV.val (PV.int .i64 x5), FV.val (PV.int .i64 x6), FV.val (PV.str x7), FV.val (PV.sl (some 8) x8)])), (5, SV.home (OV.flat (FV.val (PV.int .i64 x9))))] = f14_vestrylaw13_few.l0 rec n m x0 x1 x2 x3 x4 x5 x6 x7 x8 x9
  | 0, x0, x1, x2, x3, x4, x5, x6, x7, x8, x9 => by kernel_rfl
  | m + 1, x0, x1, x2, x3, x4, x5, x6, x7, x8, x9 => by
    have ih : (fun x0 x1 x2 x3 x4 x5 x6 x7 x8 x9 => loopAt C rec n 14 [1, 1, 0, 1, 0] [] m [(1, SV.home (OV.flat (FV.val (PV.int .i64 x0)))), (2, SV.home (OV.cont .box [FV.val (PV.int .i64 x1), FV.val (PV.int .i64 x2), FV.val (PV.str x3), FV.val (PV.str x4), FV.val (PV.int .i64 x5), FV.val (PV.int .i64 x6), FV.val (PV.str x7), FV.val (PV.sl (some 8) x8)])), (5, SV.home (OV.flat (FV.val (PV.int .i64 x9))))]) = f14_vestrylaw13_few.l0 rec n m := funext fun x0 => funext fun x1 => funext fun x2 => funext fun x3 => funext fun x4 => funext fun x5 => funext fun x6 => funext fun x7 => funext fun x8 => funext fun x9 => f14_vestrylaw13_few.l0_eq rec n m x0 x1 x2 x3 x4 x5 x6 x7 x8 x9
    exact (show loopAt C rec n 14 [1, 1, 0, 1, 0] [] (m + 1) [(1, SV.home (OV.flat (FV.val (PV.int .i64 x0)))), (2, SV.home (OV.cont .box [FV.val (PV.int .i64 x1), FV.val (PV.int .i64 x2), FV.val (PV.str x3), FV.val (PV.str x4), FV.val (PV.int .i64 x5), FV.val (PV.int .i64 x6), FV.val (PV.str x7), FV.val (PV.sl (some 8) x8)])), (5, SV.home (OV.flat (FV.val (PV.int .i64 x9))))] = f14_vestrylaw13_few.l0.step rec n (fun x0 x1 x2 x3 x4 x5 x6 x7 x8 x9 => loopAt C rec n 14 [1, 1, 0, 1, 0] [] m [(1, SV.home (OV.flat (FV.val (PV.int .i64 x0)))), (2, SV.home (OV.cont .box [FV.val (PV.int .i64 x1), FV.val (PV.int .i64 x2), FV.val (PV.str x3), FV.val (PV.str x4), FV.val (PV.int .i64 x5), FV.val (PV.int .i64 x6), FV.val (PV.str x7), FV.val (PV.sl (some 8) x8)])), (5, SV.home (OV.flat (FV.val (PV.int .i64 x9))))]) x0 x1 x2 x3 x4 x5 x6 x7 x8 x9 from by kernel_rfl).trans (by rw [ih]; rfl)

noncomputable def f14_vestrylaw13_few.pre (rec : Rec) (n : Nat) (l0 : Int → Int → Int → List UInt8 → List UInt8 → Int → Int → List UInt8 → List PV → Int → Option (List OV × List OV)) (a0 : Int) (a1 : Int) (a2 : List UInt8) (a3 : List UInt8) (a4 : Int) (a5 : Int) (a6 : List UInt8) (a7 : List PV) (a8 : Int) : Option (List OV × List OV) :=
  ifB (a8 == (0 : Int))
  (some ([OV.flat (FV.val (PV.bool false))], []))
  (ifB (decide (((List.length a7 : Nat) : Int) > (3 : Int)))
  (some ([OV.flat (FV.val (PV.bool false))], []))
  (l0 a8 a0 a1 a2 a3 a4 a5 a6 a7 (0 : Int)))

noncomputable def f14_vestrylaw13_few (rec : Rec) (n : Nat) (a0 : Int) (a1 : Int) (a2 : List UInt8) (a3 : List UInt8) (a4 : Int) (a5 : Int) (a6 : List UInt8) (a7 : List PV) (a8 : Int) : Option (List OV × List OV) := f14_vestrylaw13_few.pre rec n (f14_vestrylaw13_few.l0 rec n n) a0 a1 a2 a3 a4 a5 a6 a7 a8

theorem f14_vestrylaw13_few_eq (rec : Rec) (n : Nat) (a0 : Int) (a1 : Int) (a2 : List UInt8) (a3 : List UInt8) (a4 : Int) (a5 : Int) (a6 : List UInt8) (a7 : List PV) (a8 : Int) : callBody C rec n 14 [OV.flat (FV.val (PV.agg [PV.int .i64 a0, PV.int .i64 a1, PV.str a2, PV.str a3, PV.int .i64 a4, PV.int .i64 a5, PV.str a6, PV.sl (some 8) a7])), OV.flat (FV.val (PV.int .i64 a8))] = f14_vestrylaw13_few rec n a0 a1 a2 a3 a4 a5 a6 a7 a8 := by
  have i0 : (fun x0 x1 x2 x3 x4 x5 x6 x7 x8 x9 => loopAt C rec n 14 [1, 1, 0, 1, 0] [] n [(1, SV.home (OV.flat (FV.val (PV.int .i64 x0)))), (2, SV.home (OV.cont .box [FV.val (PV.int .i64 x1), FV.val (PV.int .i64 x2), FV.val (PV.str x3), FV.val (PV.str x4), FV.val (PV.int .i64 x5), FV.val (PV.int .i64 x6), FV.val (PV.str x7), FV.val (PV.sl (some 8) x8)])), (5, SV.home (OV.flat (FV.val (PV.int .i64 x9))))]) = f14_vestrylaw13_few.l0 rec n n := funext fun x0 => funext fun x1 => funext fun x2 => funext fun x3 => funext fun x4 => funext fun x5 => funext fun x6 => funext fun x7 => funext fun x8 => funext fun x9 => f14_vestrylaw13_few.l0_eq rec n n x0 x1 x2 x3 x4 x5 x6 x7 x8 x9
  exact (show callBody C rec n 14 [OV.flat (FV.val (PV.agg [PV.int .i64 a0, PV.int .i64 a1, PV.str a2, PV.str a3, PV.int .i64 a4, PV.int .i64 a5, PV.str a6, PV.sl (some 8) a7])), OV.flat (FV.val (PV.int .i64 a8))] = f14_vestrylaw13_few.pre rec n (fun x0 x1 x2 x3 x4 x5 x6 x7 x8 x9 => loopAt C rec n 14 [1, 1, 0, 1, 0] [] n [(1, SV.home (OV.flat (FV.val (PV.int .i64 x0)))), (2, SV.home (OV.cont .box [FV.val (PV.int .i64 x1), FV.val (PV.int .i64 x2), FV.val (PV.str x3), FV.val (PV.str x4), FV.val (PV.int .i64 x5), FV.val (PV.int .i64 x6), FV.val (PV.str x7), FV.val (PV.sl (some 8) x8)])), (5, SV.home (OV.flat (FV.val (PV.int .i64 x9))))]) a0 a1 a2 a3 a4 a5 a6 a7 a8 from by kernel_rfl).trans (by rw [i0]; rfl)

noncomputable def f15_eval_Eval.l0.step (rec : Rec) (n : Nat) (self_l0 : List PV → Int → Int → List UInt8 → List UInt8 → Int → Int → List UInt8 → List PV → Int → Int → List UInt8 → Int → Int → Int → List UInt8 → Int → Int → List UInt8 → List PV → Int → Int → Option (List OV × List OV)) (x0 : List PV) (x1 : Int) (x2 : Int) (x3 : List UInt8) (x4 : List UInt8) (x5 : Int) (x6 : Int) (x7 : List UInt8) (x8 : List PV) (x9 : Int) (x10 : Int) (x11 : List UInt8) (x12 : Int) (x13 : Int) (x14 : Int) (x15 : List UInt8) (x16 : Int) (x17 : Int) (x18 : List UInt8) (x19 : List PV) (x20 : Int) (x21 : Int) : Option (List OV × List OV) :=
  ifB (decide (x21 < x20))
  (needB (decide ((0 : Int) ≤ x21)) <|
  needB (decide (x21 < ((List.length x19 : Nat) : Int))) <|
  needB (hasT Go.Proofs.Try.prog 35 (nthP x19 (Int.toNat x21))) <|
  callB (rec 15 [OV.flat (FV.val (PV.agg [PV.int .i64 (PV.toI (List.headD (PV.cells (nthP x19 (Int.toNat x21))) PV.undef)), PV.int .i64 (PV.toI (List.headD (List.tail (PV.cells (nthP x19 (Int.toNat x21)))) PV.undef)), PV.str (PV.toS (List.headD (List.tail (List.tail (PV.cells (nthP x19 (Int.toNat x21))))) PV.undef)), PV.str (PV.toS (List.headD (List.tail (List.tail (List.tail (PV.cells (nthP x19 (Int.toNat x21)))))) PV.undef)), PV.int .i64 (PV.toI (List.headD (List.tail (List.tail (List.tail (List.tail (PV.cells (nthP x19 (Int.toNat x21))))))) PV.undef)), PV.int .i64 (PV.toI (List.headD (List.tail (List.tail (List.tail (List.tail (List.tail (PV.cells (nthP x19 (Int.toNat x21)))))))) PV.undef)), PV.str (PV.toS (List.headD (List.tail (List.tail (List.tail (List.tail (List.tail (List.tail (PV.cells (nthP x19 (Int.toNat x21))))))))) PV.undef)), PV.sl (some 8) (PV.toL (List.headD (List.tail (List.tail (List.tail (List.tail (List.tail (List.tail (List.tail (PV.cells (nthP x19 (Int.toNat x21)))))))))) PV.undef))])), OV.flat (FV.val (PV.sl (some 3) x0))]) fun r3 => needB (okOs Go.Proofs.Try.prog [23, 25] [] (Prod.fst r3)) <|
  ifB (PV.toI (FV.pv (OV.fv (List.headD (List.tail (Prod.fst r3)) (OV.flat FV.gone)))) != (0 : Int))
  (some ([OV.flat (FV.val (PV.agg [PV.int .i64 (0 : Int), PV.int .i64 (0 : Int), PV.str ([] : List UInt8)])), OV.flat (FV.val (PV.int .i64 (PV.toI (FV.pv (OV.fv (List.headD (List.tail (Prod.fst r3)) (OV.flat FV.gone)))))))], []))
  (needB (decide ((0 : Int) ≤ x21)) <|
  needB (decide (x21 < (2 : Int))) <|
  needB (Nat.ble (((Int.toNat x21) * 3) + 3) 6) <|
  needB ((hasLike (PV.int .i64 x13) (newAt ((Int.toNat x21) * 3) 0 [PV.int .i64 (PV.toI (List.headD (PV.cells (FV.pv (OV.fv (List.headD (Prod.fst r3) (OV.flat FV.gone))))) PV.undef)), PV.int .i64 (PV.toI (List.headD (List.tail (PV.cells (FV.pv (OV.fv (List.headD (Prod.fst r3) (OV.flat FV.gone)))))) PV.undef)), PV.str (PV.toS (List.headD (List.tail (List.tail (PV.cells (FV.pv (OV.fv (List.headD (Prod.fst r3) (OV.flat FV.gone))))))) PV.undef))] (PV.int .i64 x13))) && ((hasLike (PV.int .i64 x14) (newAt ((Int.toNat x21) * 3) 1 [PV.int .i64 (PV.toI (List.headD (PV.cells (FV.pv (OV.fv (List.headD (Prod.fst r3) (OV.flat FV.gone))))) PV.undef)), PV.int .i64 (PV.toI (List.headD (List.tail (PV.cells (FV.pv (OV.fv (List.headD (Prod.fst r3) (OV.flat FV.gone)))))) PV.undef)), PV.str (PV.toS (List.headD (List.tail (List.tail (PV.cells (FV.pv (OV.fv (List.headD (Prod.fst r3) (OV.flat FV.gone))))))) PV.undef))] (PV.int .i64 x14))) && ((hasLike (PV.str x15) (newAt ((Int.toNat x21) * 3) 2 [PV.int .i64 (PV.toI (List.headD (PV.cells (FV.pv (OV.fv (List.headD (Prod.fst r3) (OV.flat FV.gone))))) PV.undef)), PV.int .i64 (PV.toI (List.headD (List.tail (PV.cells (FV.pv (OV.fv (List.headD (Prod.fst r3) (OV.flat FV.gone)))))) PV.undef)), PV.str (PV.toS (List.headD (List.tail (List.tail (PV.cells (FV.pv (OV.fv (List.headD (Prod.fst r3) (OV.flat FV.gone))))))) PV.undef))] (PV.str x15))) && ((hasLike (PV.int .i64 x16) (newAt ((Int.toNat x21) * 3) 3 [PV.int .i64 (PV.toI (List.headD (PV.cells (FV.pv (OV.fv (List.headD (Prod.fst r3) (OV.flat FV.gone))))) PV.undef)), PV.int .i64 (PV.toI (List.headD (List.tail (PV.cells (FV.pv (OV.fv (List.headD (Prod.fst r3) (OV.flat FV.gone)))))) PV.undef)), PV.str (PV.toS (List.headD (List.tail (List.tail (PV.cells (FV.pv (OV.fv (List.headD (Prod.fst r3) (OV.flat FV.gone))))))) PV.undef))] (PV.int .i64 x16))) && ((hasLike (PV.int .i64 x17) (newAt ((Int.toNat x21) * 3) 4 [PV.int .i64 (PV.toI (List.headD (PV.cells (FV.pv (OV.fv (List.headD (Prod.fst r3) (OV.flat FV.gone))))) PV.undef)), PV.int .i64 (PV.toI (List.headD (List.tail (PV.cells (FV.pv (OV.fv (List.headD (Prod.fst r3) (OV.flat FV.gone)))))) PV.undef)), PV.str (PV.toS (List.headD (List.tail (List.tail (PV.cells (FV.pv (OV.fv (List.headD (Prod.fst r3) (OV.flat FV.gone))))))) PV.undef))] (PV.int .i64 x17))) && ((hasLike (PV.str x18) (newAt ((Int.toNat x21) * 3) 5 [PV.int .i64 (PV.toI (List.headD (PV.cells (FV.pv (OV.fv (List.headD (Prod.fst r3) (OV.flat FV.gone))))) PV.undef)), PV.int .i64 (PV.toI (List.headD (List.tail (PV.cells (FV.pv (OV.fv (List.headD (Prod.fst r3) (OV.flat FV.gone)))))) PV.undef)), PV.str (PV.toS (List.headD (List.tail (List.tail (PV.cells (FV.pv (OV.fv (List.headD (Prod.fst r3) (OV.flat FV.gone))))))) PV.undef))] (PV.str x18))) && (true))))))) <|
  self_l0 x0 x1 x2 x3 x4 x5 x6 x7 x8 x9 x10 x11 x12 (PV.toI (newAt ((Int.toNat x21) * 3) 0 [PV.int .i64 (PV.toI (List.headD (PV.cells (FV.pv (OV.fv (List.headD (Prod.fst r3) (OV.flat FV.gone))))) PV.undef)), PV.int .i64 (PV.toI (List.headD (List.tail (PV.cells (FV.pv (OV.fv (List.headD (Prod.fst r3) (OV.flat FV.gone)))))) PV.undef)), PV.str (PV.toS (List.headD (List.tail (List.tail (PV.cells (FV.pv (OV.fv (List.headD (Prod.fst r3) (OV.flat FV.gone))))))) PV.undef))] (PV.int .i64 x13))) (PV.toI (newAt ((Int.toNat x21) * 3) 1 [PV.int .i64 (PV.toI (List.headD (PV.cells (FV.pv (OV.fv (List.headD (Prod.fst r3) (OV.flat FV.gone))))) PV.undef)), PV.int .i64 (PV.toI (List.headD (List.tail (PV.cells (FV.pv (OV.fv (List.headD (Prod.fst r3) (OV.flat FV.gone)))))) PV.undef)), PV.str (PV.toS (List.headD (List.tail (List.tail (PV.cells (FV.pv (OV.fv (List.headD (Prod.fst r3) (OV.flat FV.gone))))))) PV.undef))] (PV.int .i64 x14))) (PV.toS (newAt ((Int.toNat x21) * 3) 2 [PV.int .i64 (PV.toI (List.headD (PV.cells (FV.pv (OV.fv (List.headD (Prod.fst r3) (OV.flat FV.gone))))) PV.undef)), PV.int .i64 (PV.toI (List.headD (List.tail (PV.cells (FV.pv (OV.fv (List.headD (Prod.fst r3) (OV.flat FV.gone)))))) PV.undef)), PV.str (PV.toS (List.headD (List.tail (List.tail (PV.cells (FV.pv (OV.fv (List.headD (Prod.fst r3) (OV.flat FV.gone))))))) PV.undef))] (PV.str x15))) (PV.toI (newAt ((Int.toNat x21) * 3) 3 [PV.int .i64 (PV.toI (List.headD (PV.cells (FV.pv (OV.fv (List.headD (Prod.fst r3) (OV.flat FV.gone))))) PV.undef)), PV.int .i64 (PV.toI (List.headD (List.tail (PV.cells (FV.pv (OV.fv (List.headD (Prod.fst r3) (OV.flat FV.gone)))))) PV.undef)), PV.str (PV.toS (List.headD (List.tail (List.tail (PV.cells (FV.pv (OV.fv (List.headD (Prod.fst r3) (OV.flat FV.gone))))))) PV.undef))] (PV.int .i64 x16))) (PV.toI (newAt ((Int.toNat x21) * 3) 4 [PV.int .i64 (PV.toI (List.headD (PV.cells (FV.pv (OV.fv (List.headD (Prod.fst r3) (OV.flat FV.gone))))) PV.undef)), PV.int .i64 (PV.toI (List.headD (List.tail (PV.cells (FV.pv (OV.fv (List.headD (Prod.fst r3) (OV.flat FV.gone)))))) PV.undef)), PV.str (PV.toS (List.headD (List.tail (List.tail (PV.cells (FV.pv (OV.fv (List.headD (Prod.fst r3) (OV.flat FV.gone))))))) PV.undef))] (PV.int .i64 x17))) (PV.toS (newAt ((Int.toNat x21) * 3) 5 [PV.int .i64 (PV.toI (List.headD (PV.cells (FV.pv (OV.fv (List.headD (Prod.fst r3) (OV.flat FV.gone))))) PV.undef)), PV.int .i64 (PV.toI (List.headD (List.tail (PV.cells (FV.pv (OV.fv (List.headD (Prod.fst r3) (OV.flat FV.gone)))))) PV.undef)), PV.str (PV.toS (List.headD (List.tail (List.tail (PV.cells (FV.pv (OV.fv (List.headD (Prod.fst r3) (OV.flat FV.gone))))))) PV.undef))] (PV.str x18))) x19 x20 (IntKind.wrap .i64 (x21 + (1 : Int)))))
  (ifB (x12 == (2 : Int))
  (callB (rec 9 [OV.flat (FV.val (PV.int .i64 x2)), OV.flat (FV.val (PV.agg [PV.int .i64 x13, PV.int .i64 x14, PV.str x15])), OV.flat (FV.val (PV.agg [PV.int .i64 x16, PV.int .i64 x17, PV.str x18]))]) fun r4 => needB (okOs Go.Proofs.Try.prog [23, 25] [] (Prod.fst r4)) <|
  some ([OV.flat (FV.val (PV.agg [PV.int .i64 (PV.toI (List.headD (PV.cells (FV.pv (OV.fv (List.headD (Prod.fst r4) (OV.flat FV.gone))))) PV.undef)), PV.int .i64 (PV.toI (List.headD (List.tail (PV.cells (FV.pv (OV.fv (List.headD (Prod.fst r4) (OV.flat FV.gone)))))) PV.undef)), PV.str (PV.toS (List.headD (List.tail (List.tail (PV.cells (FV.pv (OV.fv (List.headD (Prod.fst r4) (OV.flat FV.gone))))))) PV.undef))])), OV.flat (FV.val (PV.int .i64 (PV.toI (FV.pv (OV.fv (List.headD (List.tail (Prod.fst r4)) (OV.flat FV.gone)))))))], []))
  (callB (rec 34 [OV.flat (FV.val (PV.int .i64 x1)), OV.flat (FV.val (PV.agg [PV.int .i64 x13, PV.int .i64 x14, PV.str x15]))]) fun r5 => needB (okOs Go.Proofs.Try.prog [23, 25] [] (Prod.fst r5)) <|
  some ([OV.flat (FV.val (PV.agg [PV.int .i64 (PV.toI (List.headD (PV.cells (FV.pv (OV.fv (List.headD (Prod.fst r5) (OV.flat FV.gone))))) PV.undef)), PV.int .i64 (PV.toI (List.headD (List.tail (PV.cells (FV.pv (OV.fv (List.headD (Prod.fst r5) (OV.flat FV.gone)))))) PV.undef)), PV.str (PV.toS (List.headD (List.tail (List.tail (PV.cells (FV.pv (OV.fv (List.headD (Prod.fst r5) (OV.flat FV.gone))))))) PV.undef))])), OV.flat (FV.val (PV.int .i64 (PV.toI (FV.pv (OV.fv (List.headD (List.tail (Prod.fst r5)) (OV.flat FV.gone)))))))], [])))

noncomputable def f15_eval_Eval.l0 (rec : Rec) (n : Nat) : Nat → List PV → Int → Int → List UInt8 → List UInt8 → Int → Int → List UInt8 → List PV → Int → Int → List UInt8 → Int → Int → Int → List UInt8 → Int → Int → List UInt8 → List PV → Int → Int → Option (List OV × List OV)
  | 0, _, _, _, _, _, _, _, _, _, _, _, _, _, _, _, _, _, _, _, _, _, _ => none
  | m + 1, x0, x1, x2, x3, x4, x5, x6, x7, x8, x9, x10, x11, x12, x13, x14, x15, x16, x17, x18, x19, x20, x21 => f15_eval_Eval.l0.step rec n (f15_eval_Eval.l0 rec n m) x0 x1 x2 x3 x4 x5 x6 x7 x8 x9 x10 x11 x12 x13 x14 x15 x16 x17 x18 x19 x20 x21

theorem f15_eval_Eval.l0_eq (rec : Rec) (n : Nat) : ∀ (m : Nat) (x0 : List PV) (x1 : Int) (x2 : Int) (x3 : List UInt8) (x4 : List UInt8) (x5 : Int) (x6 : Int) (x7 : List UInt8) (x8 : List PV) (x9 : Int) (x10 : Int) (x11 : List UInt8) (x12 : Int) (x13 : Int) (x14 : Int) (x15 : List UInt8) (x16 : Int) (x17 : Int) (x18 : List UInt8) (x19 : List PV) (x20 : Int) (x21 : Int), loopAt C rec n 15 [1, 1, 1, 1, 1, 0, 1, 0] [] m [(1, SV.home (OV.flat (FV.val (PV.sl (some 3) x0)))), (2, SV.home (OV.cont .box [FV.val (PV.int .i64 x1), FV.val (PV.int .i64 x2), FV.val (PV.str x3), FV.val (PV.str x4), FV.val (PV.int .i64 x5), FV.val (PV.int .i64 x6), FV.val (PV.str x7), FV.val (PV.sl (some 8) x8)])), (4, SV.home (OV.cont .box [FV.val (PV.int .i64 x9), FV.val (PV.int .i64 x10), FV.val (PV.str x11)])), (6, SV.home (OV.flat (FV.val (PV.int .i64 x12)))), (8, SV.home (OV.cont .box [FV.val (PV.int .i64 x13), FV.val (PV.int .i64 x14), FV.val (PV.str x15), FV.val (PV.int .i64 x16), FV.val (PV.int .i64 x17), FV.val (PV.str x18)])), (63, SV.home (OV.flat (FV.val (PV.sl (some 8) x19)))), (64, SV.home (OV.flat (FV.val (PV.int .i64 x20)))), (65, SV.home (OV.flat (FV.val (PV.int .i64 x21))))] = f15_eval_Eval.l0 rec n m x0 x1 x2 x3 x4 x5 x6 x7 x8 x9 x10 x11 x12 x13 x14 x15 x16 x17 x18 x19 x20 x21
  | 0, x0, x1, x2, x3, x4, x5, x6, x7, x8, x9, x10, x11, x12, x13, x14, x15, x16, x17, x18, x19, x20, x21 => by kernel_rfl
  | m + 1, x0, x1, x2, x3, x4, x5, x6, x7, x8, x9, x10, x11, x12, x13, x14, x15, x16, x17, x18, x19, x20, x21 => by
    have ih : (fun x0 x1 x2 x3 x4 x5 x6 x7 x8 x9 x10 x11 x12 x13 x14 x15 x16 x17 x18 x19 x20 x21 => loopAt C rec n 15 [1, 1, 1, 1, 1, 0, 1, 0] [] m [(1, SV.home (OV.flat (FV.val (PV.sl (some 3) x0)))), (2, SV.home (OV.cont .box [FV.val (PV.int .i64 x1), FV.val (PV.int .i64 x2), FV.val (PV.str x3), FV.val (PV.str x4), FV.val (PV.int .i64 x5), FV.val (PV.int .i64 x6), FV.val (PV.str x7), FV.val (PV.sl (some 8) x8)])), (4, SV.home (OV.cont .box [FV.val (PV.int .i64 x9), FV.val (PV.int .i64 x10), FV.val (PV.str x11)])), (6, SV.home (OV.flat (FV.val (PV.int .i64 x12)))), (8, SV.home (OV.cont .box [FV.val (PV.int .i64 x13), FV.val (PV.int .i64 x14), FV.val (PV.str x15), FV.val (PV.int .i64 x16), FV.val (PV.int .i64 x17), FV.val (PV.str x18)])), (63, SV.home (OV.flat (FV.val (PV.sl (some 8) x19)))), (64, SV.home (OV.flat (FV.val (PV.int .i64 x20)))), (65, SV.home (OV.flat (FV.val (PV.int .i64 x21))))]) = f15_eval_Eval.l0 rec n m := funext fun x0 => funext fun x1 => funext fun x2 => funext fun x3 => funext fun x4 => funext fun x5 => funext fun x6 => funext fun x7 => funext fun x8 => funext fun x9 => funext fun x10 => funext fun x11 => funext fun x12 => funext fun x13 => funext fun x14 => funext fun x15 => funext fun x16 => funext fun x17 => funext fun x18 => funext fun x19 => funext fun x20 => funext fun x21 => f15_eval_Eval.l0_eq rec n m x0 x1 x2 x3 x4 x5 x6 x7 x8 x9 x10 x11 x12 x13 x14 x15 x16 x17 x18 x19 x20 x21
    exact (show loopAt C rec n 15 [1, 1, 1, 1, 1, 0, 1, 0] [] (m + 1) [(1, SV.home (OV.flat (FV.val (PV.sl (some 3) x0)))), (2, SV.home (OV.cont .box [FV.val (PV.int .i64 x1), FV.val (PV.int .i64 x2), FV.val (PV.str x3), FV.val (PV.str x4), FV.val (PV.int .i64 x5), FV.val (PV.int .i64 x6), FV.val (PV.str x7), FV.val (PV.sl (some 8) x8)])), (4, SV.home (OV.cont .box [FV.val (PV.int .i64 x9), FV.val (PV.int .i64 x10), FV.val (PV.str x11)])), (6, SV.home (OV.flat (FV.val (PV.int .i64 x12)))), (8, SV.home (OV.cont .box [FV.val (PV.int .i64 x13), FV.val (PV.int .i64 x14), FV.val (PV.str x15), FV.val (PV.int .i64 x16), FV.val (PV.int .i64 x17), FV.val (PV.str x18)])), (63, SV.home (OV.flat (FV.val (PV.sl (some 8) x19)))), (64, SV.home (OV.flat (FV.val (PV.int .i64 x20)))), (65, SV.home (OV.flat (FV.val (PV.int .i64 x21))))] = f15_eval_Eval.l0.step rec n (fun x0 x1 x2 x3 x4 x5 x6 x7 x8 x9 x10 x11 x12 x13 x14 x15 x16 x17 x18 x19 x20 x21 => loopAt C rec n 15 [1, 1, 1, 1, 1, 0, 1, 0] [] m [(1, SV.home (OV.flat (FV.val (PV.sl (some 3) x0)))), (2, SV.home (OV.cont .box [FV.val (PV.int .i64 x1), FV.val (PV.int .i64 x2), FV.val (PV.str x3), FV.val (PV.str x4), FV.val (PV.int .i64 x5), FV.val (PV.int .i64 x6), FV.val (PV.str x7), FV.val (PV.sl (some 8) x8)])), (4, SV.home (OV.cont .box [FV.val (PV.int .i64 x9), FV.val (PV.int .i64 x10), FV.val (PV.str x11)])), (6, SV.home (OV.flat (FV.val (PV.int .i64 x12)))), (8, SV.home (OV.cont .box [FV.val (PV.int .i64 x13), FV.val (PV.int .i64 x14), FV.val (PV.str x15), FV.val (PV.int .i64 x16), FV.val (PV.int .i64 x17), FV.val (PV.str x18)])), (63, SV.home (OV.flat (FV.val (PV.sl (some 8) x19)))), (64, SV.home (OV.flat (FV.val (PV.int .i64 x20)))), (65, SV.home (OV.flat (FV.val (PV.int .i64 x21))))]) x0 x1 x2 x3 x4 x5 x6 x7 x8 x9 x10 x11 x12 x13 x14 x15 x16 x17 x18 x19 x20 x21 from by kernel_rfl).trans (by rw [ih]; rfl)

noncomputable def f15_eval_Eval.pre (rec : Rec) (n : Nat) (l0 : List PV → Int → Int → List UInt8 → List UInt8 → Int → Int → List UInt8 → List PV → Int → Int → List UInt8 → Int → Int → Int → List UInt8 → Int → Int → List UInt8 → List PV → Int → Int → Option (List OV × List OV)) (a0 : Int) (a1 : Int) (a2 : List UInt8) (a3 : List UInt8) (a4 : Int) (a5 : Int) (a6 : List UInt8) (a7 : List PV) (a8 : List PV) : Option (List OV × List OV) :=
  ifB (a0 == (1 : Int))
  (callB (rec 33 [OV.flat (FV.val (PV.agg [PV.int .i64 a4, PV.int .i64 a5, PV.str a6]))]) fun r1 => needB (okOs Go.Proofs.Try.prog [23, 25] [] (Prod.fst r1)) <|
  some ([OV.flat (FV.val (PV.agg [PV.int .i64 (PV.toI (List.headD (PV.cells (FV.pv (OV.fv (List.headD (Prod.fst r1) (OV.flat FV.gone))))) PV.undef)), PV.int .i64 (PV.toI (List.headD (List.tail (PV.cells (FV.pv (OV.fv (List.headD (Prod.fst r1) (OV.flat FV.gone)))))) PV.undef)), PV.str (PV.toS (List.headD (List.tail (List.tail (PV.cells (FV.pv (OV.fv (List.headD (Prod.fst r1) (OV.flat FV.gone))))))) PV.undef))])), OV.flat (FV.val (PV.int .i64 (PV.toI (FV.pv (OV.fv (List.headD (List.tail (Prod.fst r1)) (OV.flat FV.gone)))))))], []))
  (ifB (a0 == (2 : Int))
  (ifB (a4 == (1 : Int))
  (ifB (decide (a5 ≥ (0 : Int)))
  (ifB (decide (a5 < ((List.length a8 : Nat) : Int)))
  (needB (decide ((0 : Int) ≤ a5)) <|
  needB (decide (a5 < ((List.length a8 : Nat) : Int))) <|
  needB (hasT Go.Proofs.Try.prog 23 (nthP a8 (Int.toNat a5))) <|
  callB (rec 33 [OV.flat (FV.val (PV.agg [PV.int .i64 (PV.toI (List.headD (PV.cells (nthP a8 (Int.toNat a5))) PV.undef)), PV.int .i64 (PV.toI (List.headD (List.tail (PV.cells (nthP a8 (Int.toNat a5)))) PV.undef)), PV.str (PV.toS (List.headD (List.tail (List.tail (PV.cells (nthP a8 (Int.toNat a5))))) PV.undef))]))]) fun r2 => needB (okOs Go.Proofs.Try.prog [23, 25] [] (Prod.fst r2)) <|
  some ([OV.flat (FV.val (PV.agg [PV.int .i64 (PV.toI (List.headD (PV.cells (FV.pv (OV.fv (List.headD (Prod.fst r2) (OV.flat FV.gone))))) PV.undef)), PV.int .i64 (PV.toI (List.headD (List.tail (PV.cells (FV.pv (OV.fv (List.headD (Prod.fst r2) (OV.flat FV.gone)))))) PV.undef)), PV.str (PV.toS (List.headD (List.tail (List.tail (PV.cells (FV.pv (OV.fv (List.headD (Prod.fst r2) (OV.flat FV.gone))))))) PV.undef))])), OV.flat (FV.val (PV.int .i64 (PV.toI (FV.pv (OV.fv (List.headD (List.tail (Prod.fst r2)) (OV.flat FV.gone)))))))], []))
  (some ([OV.flat (FV.val (PV.agg [PV.int .i64 (0 : Int), PV.int .i64 (0 : Int), PV.str ([] : List UInt8)])), OV.flat (FV.val (PV.int .i64 (12 : Int)))], [])))
  (some ([OV.flat (FV.val (PV.agg [PV.int .i64 (0 : Int), PV.int .i64 (0 : Int), PV.str ([] : List UInt8)])), OV.flat (FV.val (PV.int .i64 (12 : Int)))], [])))
  (some ([OV.flat (FV.val (PV.agg [PV.int .i64 (0 : Int), PV.int .i64 (0 : Int), PV.str ([] : List UInt8)])), OV.flat (FV.val (PV.int .i64 (12 : Int)))], [])))
  (ifB (a0 == (3 : Int))
  (ifB (((List.length a7 : Nat) : Int) != (2 : Int))
  (some ([OV.flat (FV.val (PV.agg [PV.int .i64 (0 : Int), PV.int .i64 (0 : Int), PV.str ([] : List UInt8)])), OV.flat (FV.val (PV.int .i64 (4 : Int)))], []))
  (l0 a8 a0 a1 a2 a3 a4 a5 a6 a7 (0 : Int) (0 : Int) ([] : List UInt8) (2 : Int) (0 : Int) (0 : Int) ([] : List UInt8) (0 : Int) (0 : Int) ([] : List UInt8) a7 ((List.length a7 : Nat) : Int) (0 : Int)))
  (ifB (a0 == (4 : Int))
  (ifB (((List.length a7 : Nat) : Int) != (1 : Int))
  (some ([OV.flat (FV.val (PV.agg [PV.int .i64 (0 : Int), PV.int .i64 (0 : Int), PV.str ([] : List UInt8)])), OV.flat (FV.val (PV.int .i64 (4 : Int)))], []))
  (l0 a8 a0 a1 a2 a3 a4 a5 a6 a7 (0 : Int) (0 : Int) ([] : List UInt8) (1 : Int) (0 : Int) (0 : Int) ([] : List UInt8) (0 : Int) (0 : Int) ([] : List UInt8) a7 ((List.length a7 : Nat) : Int) (0 : Int)))
  (ifB (a0 == (5 : Int))
  (ifB (((List.length a7 : Nat) : Int) != (1 : Int))
  (some ([OV.flat (FV.val (PV.agg [PV.int .i64 (0 : Int), PV.int .i64 (0 : Int), PV.str ([] : List UInt8)])), OV.flat (FV.val (PV.int .i64 (4 : Int)))], []))
  (l0 a8 a0 a1 a2 a3 a4 a5 a6 a7 (0 : Int) (0 : Int) ([] : List UInt8) (1 : Int) (0 : Int) (0 : Int) ([] : List UInt8) (0 : Int) (0 : Int) ([] : List UInt8) a7 ((List.length a7 : Nat) : Int) (0 : Int)))
  (ifB (a0 == (6 : Int))
  (ifB (((List.length a7 : Nat) : Int) != (1 : Int))
  (some ([OV.flat (FV.val (PV.agg [PV.int .i64 (0 : Int), PV.int .i64 (0 : Int), PV.str ([] : List UInt8)])), OV.flat (FV.val (PV.int .i64 (4 : Int)))], []))
  (l0 a8 a0 a1 a2 a3 a4 a5 a6 a7 (0 : Int) (0 : Int) ([] : List UInt8) (1 : Int) (0 : Int) (0 : Int) ([] : List UInt8) (0 : Int) (0 : Int) ([] : List UInt8) a7 ((List.length a7 : Nat) : Int) (0 : Int)))
  (some ([OV.flat (FV.val (PV.agg [PV.int .i64 (0 : Int), PV.int .i64 (0 : Int), PV.str ([] : List UInt8)])), OV.flat (FV.val (PV.int .i64 (4 : Int)))], [])))))))

noncomputable def f15_eval_Eval (rec : Rec) (n : Nat) (a0 : Int) (a1 : Int) (a2 : List UInt8) (a3 : List UInt8) (a4 : Int) (a5 : Int) (a6 : List UInt8) (a7 : List PV) (a8 : List PV) : Option (List OV × List OV) := f15_eval_Eval.pre rec n (f15_eval_Eval.l0 rec n n) a0 a1 a2 a3 a4 a5 a6 a7 a8

theorem f15_eval_Eval_eq (rec : Rec) (n : Nat) (a0 : Int) (a1 : Int) (a2 : List UInt8) (a3 : List UInt8) (a4 : Int) (a5 : Int) (a6 : List UInt8) (a7 : List PV) (a8 : List PV) : callBody C rec n 15 [OV.flat (FV.val (PV.agg [PV.int .i64 a0, PV.int .i64 a1, PV.str a2, PV.str a3, PV.int .i64 a4, PV.int .i64 a5, PV.str a6, PV.sl (some 8) a7])), OV.flat (FV.val (PV.sl (some 3) a8))] = f15_eval_Eval rec n a0 a1 a2 a3 a4 a5 a6 a7 a8 := by
  have i0 : (fun x0 x1 x2 x3 x4 x5 x6 x7 x8 x9 x10 x11 x12 x13 x14 x15 x16 x17 x18 x19 x20 x21 => loopAt C rec n 15 [1, 1, 1, 1, 1, 0, 1, 0] [] n [(1, SV.home (OV.flat (FV.val (PV.sl (some 3) x0)))), (2, SV.home (OV.cont .box [FV.val (PV.int .i64 x1), FV.val (PV.int .i64 x2), FV.val (PV.str x3), FV.val (PV.str x4), FV.val (PV.int .i64 x5), FV.val (PV.int .i64 x6), FV.val (PV.str x7), FV.val (PV.sl (some 8) x8)])), (4, SV.home (OV.cont .box [FV.val (PV.int .i64 x9), FV.val (PV.int .i64 x10), FV.val (PV.str x11)])), (6, SV.home (OV.flat (FV.val (PV.int .i64 x12)))), (8, SV.home (OV.cont .box [FV.val (PV.int .i64 x13), FV.val (PV.int .i64 x14), FV.val (PV.str x15), FV.val (PV.int .i64 x16), FV.val (PV.int .i64 x17), FV.val (PV.str x18)])), (63, SV.home (OV.flat (FV.val (PV.sl (some 8) x19)))), (64, SV.home (OV.flat (FV.val (PV.int .i64 x20)))), (65, SV.home (OV.flat (FV.val (PV.int .i64 x21))))]) = f15_eval_Eval.l0 rec n n := funext fun x0 => funext fun x1 => funext fun x2 => funext fun x3 => funext fun x4 => funext fun x5 => funext fun x6 => funext fun x7 => funext fun x8 => funext fun x9 => funext fun x10 => funext fun x11 => funext fun x12 => funext fun x13 => funext fun x14 => funext fun x15 => funext fun x16 => funext fun x17 => funext fun x18 => funext fun x19 => funext fun x20 => funext fun x21 => f15_eval_Eval.l0_eq rec n n x0 x1 x2 x3 x4 x5 x6 x7 x8 x9 x10 x11 x12 x13 x14 x15 x16 x17 x18 x19 x20 x21
  exact (show callBody C rec n 15 [OV.flat (FV.val (PV.agg [PV.int .i64 a0, PV.int .i64 a1, PV.str a2, PV.str a3, PV.int .i64 a4, PV.int .i64 a5, PV.str a6, PV.sl (some 8) a7])), OV.flat (FV.val (PV.sl (some 3) a8))] = f15_eval_Eval.pre rec n (fun x0 x1 x2 x3 x4 x5 x6 x7 x8 x9 x10 x11 x12 x13 x14 x15 x16 x17 x18 x19 x20 x21 => loopAt C rec n 15 [1, 1, 1, 1, 1, 0, 1, 0] [] n [(1, SV.home (OV.flat (FV.val (PV.sl (some 3) x0)))), (2, SV.home (OV.cont .box [FV.val (PV.int .i64 x1), FV.val (PV.int .i64 x2), FV.val (PV.str x3), FV.val (PV.str x4), FV.val (PV.int .i64 x5), FV.val (PV.int .i64 x6), FV.val (PV.str x7), FV.val (PV.sl (some 8) x8)])), (4, SV.home (OV.cont .box [FV.val (PV.int .i64 x9), FV.val (PV.int .i64 x10), FV.val (PV.str x11)])), (6, SV.home (OV.flat (FV.val (PV.int .i64 x12)))), (8, SV.home (OV.cont .box [FV.val (PV.int .i64 x13), FV.val (PV.int .i64 x14), FV.val (PV.str x15), FV.val (PV.int .i64 x16), FV.val (PV.int .i64 x17), FV.val (PV.str x18)])), (63, SV.home (OV.flat (FV.val (PV.sl (some 8) x19)))), (64, SV.home (OV.flat (FV.val (PV.int .i64 x20)))), (65, SV.home (OV.flat (FV.val (PV.int .i64 x21))))]) a0 a1 a2 a3 a4 a5 a6 a7 a8 from by kernel_rfl).trans (by rw [i0]; rfl)

noncomputable def f16_vestryref09_SameExpr (rec : Rec) (n : Nat) (a0 : Int) (a1 : Int) (a2 : List UInt8) (a3 : List UInt8) (a4 : Int) (a5 : Int) (a6 : List UInt8) (a7 : List PV) (a8 : Int) (a9 : Int) (a10 : List UInt8) (a11 : List UInt8) (a12 : Int) (a13 : Int) (a14 : List UInt8) (a15 : List PV) : Option (List OV × List OV) :=
  ifB (a0 == a8)
  (ifB (a1 == a9)
  (ifB (a2 == a10)
  (ifB (a3 == a11)
  (ifB ((a4 == a12) && ((a5 == a13) && ((a6 == a14) && (true))))
  (callB (rec 35 [OV.flat (FV.val (PV.sl (some 8) a7)), OV.flat (FV.val (PV.sl (some 8) a15))]) fun r1 => needB (okOs Go.Proofs.Try.prog [4] [] (Prod.fst r1)) <|
  some ([OV.flat (FV.val (PV.bool (PV.toB (FV.pv (OV.fv (List.headD (Prod.fst r1) (OV.flat FV.gone)))))))], []))
  (some ([OV.flat (FV.val (PV.bool false))], [])))
  (some ([OV.flat (FV.val (PV.bool false))], [])))
  (some ([OV.flat (FV.val (PV.bool false))], [])))
  (some ([OV.flat (FV.val (PV.bool false))], [])))
  (some ([OV.flat (FV.val (PV.bool false))], []))

theorem f16_vestryref09_SameExpr_eq (rec : Rec) (n : Nat) (a0 : Int) (a1 : Int) (a2 : List UInt8) (a3 : List UInt8) (a4 : Int) (a5 : Int) (a6 : List UInt8) (a7 : List PV) (a8 : Int) (a9 : Int) (a10 : List UInt8) (a11 : List UInt8) (a12 : Int) (a13 : Int) (a14 : List UInt8) (a15 : List PV) : callBody C rec n 16 [OV.flat (FV.val (PV.agg [PV.int .i64 a0, PV.int .i64 a1, PV.str a2, PV.str a3, PV.int .i64 a4, PV.int .i64 a5, PV.str a6, PV.sl (some 8) a7])), OV.flat (FV.val (PV.agg [PV.int .i64 a8, PV.int .i64 a9, PV.str a10, PV.str a11, PV.int .i64 a12, PV.int .i64 a13, PV.str a14, PV.sl (some 8) a15]))] = f16_vestryref09_SameExpr rec n a0 a1 a2 a3 a4 a5 a6 a7 a8 a9 a10 a11 a12 a13 a14 a15 := by kernel_rfl

noncomputable def f17_vestrylaw07_Num (rec : Rec) (n : Nat) (a0 : Int) : Option (List OV × List OV) :=
  some ([OV.flat (FV.val (PV.agg [PV.int .i64 (1 : Int), PV.int .i64 a0, PV.str ([] : List UInt8)]))], [])

theorem f17_vestrylaw07_Num_eq (rec : Rec) (n : Nat) (a0 : Int) : callBody C rec n 17 [OV.flat (FV.val (PV.int .i64 a0))] = f17_vestrylaw07_Num rec n a0 := by kernel_rfl

noncomputable def f18_eval_True (rec : Rec) (n : Nat) (a0 : Int) (a1 : Int) (a2 : List UInt8) (a3 : List UInt8) (a4 : Int) (a5 : Int) (a6 : List UInt8) (a7 : List PV) (a8 : List PV) : Option (List OV × List OV) :=
  callB (rec 15 [OV.flat (FV.val (PV.agg [PV.int .i64 a0, PV.int .i64 a1, PV.str a2, PV.str a3, PV.int .i64 a4, PV.int .i64 a5, PV.str a6, PV.sl (some 8) a7])), OV.flat (FV.val (PV.sl (some 3) a8))]) fun r1 => needB (okOs Go.Proofs.Try.prog [23, 25] [] (Prod.fst r1)) <|
  ifB (PV.toI (FV.pv (OV.fv (List.headD (List.tail (Prod.fst r1)) (OV.flat FV.gone)))) == (0 : Int))
  (ifB (PV.toI (List.headD (PV.cells (FV.pv (OV.fv (List.headD (Prod.fst r1) (OV.flat FV.gone))))) PV.undef) == (2 : Int))
  (some ([OV.flat (FV.val (PV.bool false)), OV.flat (FV.val (PV.int .i64 (9 : Int)))], []))
  (ifB (PV.toI (FV.pv (OV.fv (List.headD (List.tail (Prod.fst r1)) (OV.flat FV.gone)))) == (0 : Int))
  (callB (rec 36 [OV.flat (FV.val (PV.agg [PV.int .i64 (PV.toI (List.headD (PV.cells (FV.pv (OV.fv (List.headD (Prod.fst r1) (OV.flat FV.gone))))) PV.undef)), PV.int .i64 (PV.toI (List.headD (List.tail (PV.cells (FV.pv (OV.fv (List.headD (Prod.fst r1) (OV.flat FV.gone)))))) PV.undef)), PV.str (PV.toS (List.headD (List.tail (List.tail (PV.cells (FV.pv (OV.fv (List.headD (Prod.fst r1) (OV.flat FV.gone))))))) PV.undef))]))]) fun r2 => needB (okOs Go.Proofs.Try.prog [4] [] (Prod.fst r2)) <|
  some ([OV.flat (FV.val (PV.bool (PV.toB (FV.pv (OV.fv (List.headD (Prod.fst r2) (OV.flat FV.gone))))))), OV.flat (FV.val (PV.int .i64 (PV.toI (FV.pv (OV.fv (List.headD (List.tail (Prod.fst r1)) (OV.flat FV.gone)))))))], []))
  (some ([OV.flat (FV.val (PV.bool false)), OV.flat (FV.val (PV.int .i64 (PV.toI (FV.pv (OV.fv (List.headD (List.tail (Prod.fst r1)) (OV.flat FV.gone)))))))], []))))
  (ifB (PV.toI (FV.pv (OV.fv (List.headD (List.tail (Prod.fst r1)) (OV.flat FV.gone)))) == (0 : Int))
  (callB (rec 36 [OV.flat (FV.val (PV.agg [PV.int .i64 (PV.toI (List.headD (PV.cells (FV.pv (OV.fv (List.headD (Prod.fst r1) (OV.flat FV.gone))))) PV.undef)), PV.int .i64 (PV.toI (List.headD (List.tail (PV.cells (FV.pv (OV.fv (List.headD (Prod.fst r1) (OV.flat FV.gone)))))) PV.undef)), PV.str (PV.toS (List.headD (List.tail (List.tail (PV.cells (FV.pv (OV.fv (List.headD (Prod.fst r1) (OV.flat FV.gone))))))) PV.undef))]))]) fun r3 => needB (okOs Go.Proofs.Try.prog [4] [] (Prod.fst r3)) <|
  some ([OV.flat (FV.val (PV.bool (PV.toB (FV.pv (OV.fv (List.headD (Prod.fst r3) (OV.flat FV.gone))))))), OV.flat (FV.val (PV.int .i64 (PV.toI (FV.pv (OV.fv (List.headD (List.tail (Prod.fst r1)) (OV.flat FV.gone)))))))], []))
  (some ([OV.flat (FV.val (PV.bool false)), OV.flat (FV.val (PV.int .i64 (PV.toI (FV.pv (OV.fv (List.headD (List.tail (Prod.fst r1)) (OV.flat FV.gone)))))))], [])))

theorem f18_eval_True_eq (rec : Rec) (n : Nat) (a0 : Int) (a1 : Int) (a2 : List UInt8) (a3 : List UInt8) (a4 : Int) (a5 : Int) (a6 : List UInt8) (a7 : List PV) (a8 : List PV) : callBody C rec n 18 [OV.flat (FV.val (PV.agg [PV.int .i64 a0, PV.int .i64 a1, PV.str a2, PV.str a3, PV.int .i64 a4, PV.int .i64 a5, PV.str a6, PV.sl (some 8) a7])), OV.flat (FV.val (PV.sl (some 3) a8))] = f18_eval_True rec n a0 a1 a2 a3 a4 a5 a6 a7 a8 := by kernel_rfl

noncomputable def f19_vestryref13_Eval.l0.step (rec : Rec) (n : Nat) (self_l0 : List PV → Int → Int → List UInt8 → List UInt8 → Int → Int → List UInt8 → List PV → Int → Int → List UInt8 → Int → List PV → Int → Option (List OV × List OV)) (x0 : List PV) (x1 : Int) (x2 : Int) (x3 : List UInt8) (x4 : List UInt8) (x5 : Int) (x6 : Int) (x7 : List UInt8) (x8 : List PV) (x9 : Int) (x10 : Int) (x11 : List UInt8) (x12 : Int) (x13 : List PV) (x14 : Int) : Option (List OV × List OV) :=
  ifB (decide (x14 < ((List.length x8 : Nat) : Int)))
  (needB (decide ((0 : Int) ≤ x14)) <|
  needB (decide (x14 < ((List.length x8 : Nat) : Int))) <|
  needB (hasT Go.Proofs.Try.prog 35 (nthP x8 (Int.toNat x14))) <|
  callB (rec 19 [OV.flat (FV.val (PV.agg [PV.int .i64 (PV.toI (List.headD (PV.cells (nthP x8 (Int.toNat x14))) PV.undef)), PV.int .i64 (PV.toI (List.headD (List.tail (PV.cells (nthP x8 (Int.toNat x14)))) PV.undef)), PV.str (PV.toS (List.headD (List.tail (List.tail (PV.cells (nthP x8 (Int.toNat x14))))) PV.undef)), PV.str (PV.toS (List.headD (List.tail (List.tail (List.tail (PV.cells (nthP x8 (Int.toNat x14)))))) PV.undef)), PV.int .i64 (PV.toI (List.headD (List.tail (List.tail (List.tail (List.tail (PV.cells (nthP x8 (Int.toNat x14))))))) PV.undef)), PV.int .i64 (PV.toI (List.headD (List.tail (List.tail (List.tail (List.tail (List.tail (PV.cells (nthP x8 (Int.toNat x14)))))))) PV.undef)), PV.str (PV.toS (List.headD (List.tail (List.tail (List.tail (List.tail (List.tail (List.tail (PV.cells (nthP x8 (Int.toNat x14))))))))) PV.undef)), PV.sl (some 8) (PV.toL (List.headD (List.tail (List.tail (List.tail (List.tail (List.tail (List.tail (List.tail (PV.cells (nthP x8 (Int.toNat x14)))))))))) PV.undef))])), OV.flat (FV.val (PV.sl (some 3) x0))]) fun r3 => needB (okOs Go.Proofs.Try.prog [23, 25] [] (Prod.fst r3)) <|
  ifB (PV.toI (FV.pv (OV.fv (List.headD (List.tail (Prod.fst r3)) (OV.flat FV.gone)))) != (0 : Int))
  (some ([OV.flat (FV.val (PV.agg [PV.int .i64 (0 : Int), PV.int .i64 (0 : Int), PV.str ([] : List UInt8)])), OV.flat (FV.val (PV.int .i64 (PV.toI (FV.pv (OV.fv (List.headD (List.tail (Prod.fst r3)) (OV.flat FV.gone)))))))], []))
  (needB (Nat.ble ((List.length x13 + List.length [PV.agg [PV.int .i64 (PV.toI (List.headD (PV.cells (FV.pv (OV.fv (List.headD (Prod.fst r3) (OV.flat FV.gone))))) PV.undef)), PV.int .i64 (PV.toI (List.headD (List.tail (PV.cells (FV.pv (OV.fv (List.headD (Prod.fst r3) (OV.flat FV.gone)))))) PV.undef)), PV.str (PV.toS (List.headD (List.tail (List.tail (PV.cells (FV.pv (OV.fv (List.headD (Prod.fst r3) (OV.flat FV.gone))))))) PV.undef))]]) * 32) 140737488355328) <|
  needB (Nat.ble (List.length x13 + List.length [PV.agg [PV.int .i64 (PV.toI (List.headD (PV.cells (FV.pv (OV.fv (List.headD (Prod.fst r3) (OV.flat FV.gone))))) PV.undef)), PV.int .i64 (PV.toI (List.headD (List.tail (PV.cells (FV.pv (OV.fv (List.headD (Prod.fst r3) (OV.flat FV.gone)))))) PV.undef)), PV.str (PV.toS (List.headD (List.tail (List.tail (PV.cells (FV.pv (OV.fv (List.headD (Prod.fst r3) (OV.flat FV.gone))))))) PV.undef))]]) 9223372036854775807) <|
  self_l0 x0 x1 x2 x3 x4 x5 x6 x7 x8 x9 x10 x11 x12 (x13 ++ [PV.agg [PV.int .i64 (PV.toI (List.headD (PV.cells (FV.pv (OV.fv (List.headD (Prod.fst r3) (OV.flat FV.gone))))) PV.undef)), PV.int .i64 (PV.toI (List.headD (List.tail (PV.cells (FV.pv (OV.fv (List.headD (Prod.fst r3) (OV.flat FV.gone)))))) PV.undef)), PV.str (PV.toS (List.headD (List.tail (List.tail (PV.cells (FV.pv (OV.fv (List.headD (Prod.fst r3) (OV.flat FV.gone))))))) PV.undef))]]) (IntKind.wrap .i64 (x14 + (1 : Int)))))
  (ifB (x12 == (2 : Int))
  (needB (decide ((0 : Int) < ((List.length x13 : Nat) : Int))) <|
  needB (Nat.blt 0 (List.length x13)) <|
  needB (hasT Go.Proofs.Try.prog 23 (nthP x13 0)) <|
  needB (decide ((1 : Int) < ((List.length x13 : Nat) : Int))) <|
  needB (Nat.blt 1 (List.length x13)) <|
  needB (hasT Go.Proofs.Try.prog 23 (nthP x13 1)) <|
  callB (rec 10 [OV.flat (FV.val (PV.int .i64 x2)), OV.flat (FV.val (PV.agg [PV.int .i64 (PV.toI (List.headD (PV.cells (nthP x13 0)) PV.undef)), PV.int .i64 (PV.toI (List.headD (List.tail (PV.cells (nthP x13 0))) PV.undef)), PV.str (PV.toS (List.headD (List.tail (List.tail (PV.cells (nthP x13 0)))) PV.undef))])), OV.flat (FV.val (PV.agg [PV.int .i64 (PV.toI (List.headD (PV.cells (nthP x13 1)) PV.undef)), PV.int .i64 (PV.toI (List.headD (List.tail (PV.cells (nthP x13 1))) PV.undef)), PV.str (PV.toS (List.headD (List.tail (List.tail (PV.cells (nthP x13 1)))) PV.undef))]))]) fun r4 => needB (okOs Go.Proofs.Try.prog [23, 25] [] (Prod.fst r4)) <|
  some ([OV.flat (FV.val (PV.agg [PV.int .i64 (PV.toI (List.headD (PV.cells (FV.pv (OV.fv (List.headD (Prod.fst r4) (OV.flat FV.gone))))) PV.undef)), PV.int .i64 (PV.toI (List.headD (List.tail (PV.cells (FV.pv (OV.fv (List.headD (Prod.fst r4) (OV.flat FV.gone)))))) PV.undef)), PV.str (PV.toS (List.headD (List.tail (List.tail (PV.cells (FV.pv (OV.fv (List.headD (Prod.fst r4) (OV.flat FV.gone))))))) PV.undef))])), OV.flat (FV.val (PV.int .i64 (PV.toI (FV.pv (OV.fv (List.headD (List.tail (Prod.fst r4)) (OV.flat FV.gone)))))))], []))
  (needB (decide ((0 : Int) < ((List.length x13 : Nat) : Int))) <|
  needB (Nat.blt 0 (List.length x13)) <|
  needB (hasT Go.Proofs.Try.prog 23 (nthP x13 0)) <|
  callB (rec 38 [OV.flat (FV.val (PV.int .i64 x1)), OV.flat (FV.val (PV.agg [PV.int .i64 (PV.toI (List.headD (PV.cells (nthP x13 0)) PV.undef)), PV.int .i64 (PV.toI (List.headD (List.tail (PV.cells (nthP x13 0))) PV.undef)), PV.str (PV.toS (List.headD (List.tail (List.tail (PV.cells (nthP x13 0)))) PV.undef))]))]) fun r5 => needB (okOs Go.Proofs.Try.prog [23, 25] [] (Prod.fst r5)) <|
  some ([OV.flat (FV.val (PV.agg [PV.int .i64 (PV.toI (List.headD (PV.cells (FV.pv (OV.fv (List.headD (Prod.fst r5) (OV.flat FV.gone))))) PV.undef)), PV.int .i64 (PV.toI (List.headD (List.tail (PV.cells (FV.pv (OV.fv (List.headD (Prod.fst r5) (OV.flat FV.gone)))))) PV.undef)), PV.str (PV.toS (List.headD (List.tail (List.tail (PV.cells (FV.pv (OV.fv (List.headD (Prod.fst r5) (OV.flat FV.gone))))))) PV.undef))])), OV.flat (FV.val (PV.int .i64 (PV.toI (FV.pv (OV.fv (List.headD (List.tail (Prod.fst r5)) (OV.flat FV.gone)))))))], [])))

noncomputable def f19_vestryref13_Eval.l0 (rec : Rec) (n : Nat) : Nat → List PV → Int → Int → List UInt8 → List UInt8 → Int → Int → List UInt8 → List PV → Int → Int → List UInt8 → Int → List PV → Int → Option (List OV × List OV)
  | 0, _, _, _, _, _, _, _, _, _, _, _, _, _, _, _ => none
  | m + 1, x0, x1, x2, x3, x4, x5, x6, x7, x8, x9, x10, x11, x12, x13, x14 => f19_vestryref13_Eval.l0.step rec n (f19_vestryref13_Eval.l0 rec n m) x0 x1 x2 x3 x4 x5 x6 x7 x8 x9 x10 x11 x12 x13 x14

theorem f19_vestryref13_Eval.l0_eq (rec : Rec) (n : Nat) : ∀ (m : Nat) (x0 : List PV) (x1 : Int) (x2 : Int) (x3 : List UInt8) (x4 : List UInt8) (x5 : Int) (x6 : Int) (x7 : List UInt8) (x8 : List PV) (x9 : Int) (x10 : Int) (x11 : List UInt8) (x12 : Int) (x13 : List PV) (x14 : Int), loopAt C rec n 19 [1, 1, 1, 1, 1, 0, 1, 0] [] m [(1, SV.home (OV.flat (FV.val (PV.sl (some 3) x0)))), (2, SV.home (OV.cont .box [FV.val (PV.int .i64 x1), FV.val (PV.int .i64 x2), FV.val (PV.str x3), FV.val (PV.str x4), FV.val (PV.int .i64 x5), FV.val (PV.int .i64 x6), FV.val (PV.str x7), FV.val (PV.sl (some 8) x8)])), (4, SV.home (OV.cont .box [FV.val (PV.int .i64 x9), FV.val (PV.int .i64 x10), FV.val (PV.str x11)])), (6, SV.home (OV.flat (FV.val (PV.int .i64 x12)))), (7, SV.home (OV.flat (FV.own (some 3) x13 []))), (8, SV.home (OV.flat (FV.val (PV.int .i64 x14))))] = f19_vestryref13_Eval.l0 rec n m x0 x1 x2 x3 x4 x5 x6 x7 x8 x9 x10 x11 x12 x13 x14
  | 0, x0, x1, x2, x3, x4, x5, x6, x7, x8, x9, x10, x11, x12, x13, x14 => by kernel_rfl
  | m + 1, x0, x1, x2, x3, x4, x5, x6, x7, x8, x9, x10, x11, x12, x13, x14 => by
    have ih : (fun x0 x1 x2 x3 x4 x5 x6 x7 x8 x9 x10 x11 x12 x13 x14 => loopAt C rec n 19 [1, 1, 1, 1, 1, 0, 1, 0] [] m [(1, SV.home (OV.flat (FV.val (PV.sl (some 3) x0)))), (2, SV.home (OV.cont .box [FV.val (PV.int .i64 x1), FV.val (PV.int .i64 x2), FV.val (PV.str x3), FV.val (PV.str x4), FV.val (PV.int .i64 x5), FV.val (PV.int .i64 x6), FV.val (PV.str x7), FV.val (PV.sl (some 8) x8)])), (4, SV.home (OV.cont .box [FV.val (PV.int .i64 x9), FV.val (PV.int .i64 x10), FV.val (PV.str x11)])), (6, SV.home (OV.flat (FV.val (PV.int .i64 x12)))), (7, SV.home (OV.flat (FV.own (some 3) x13 []))), (8, SV.home (OV.flat (FV.val (PV.int .i64 x14))))]) = f19_vestryref13_Eval.l0 rec n m := funext fun x0 => funext fun x1 => funext fun x2 => funext fun x3 => funext fun x4 => funext fun x5 => funext fun x6 => funext fun x7 => funext fun x8 => funext fun x9 => funext fun x10 => funext fun x11 => funext fun x12 => funext fun x13 => funext fun x14 => f19_vestryref13_Eval.l0_eq rec n m x0 x1 x2 x3 x4 x5 x6 x7 x8 x9 x10 x11 x12 x13 x14
    exact (show loopAt C rec n 19 [1, 1, 1, 1, 1, 0, 1, 0] [] (m + 1) [(1, SV.home (OV.flat (FV.val (PV.sl (some 3) x0)))), (2, SV.home (OV.cont .box [FV.val (PV.int .i64 x1), FV.val (PV.int .i64 x2), FV.val (PV.str x3), FV.val (PV.str x4), FV.val (PV.int .i64 x5), FV.val (PV.int .i64 x6), FV.val (PV.str x7), FV.val (PV.sl (some 8) x8)])), (4, SV.home (OV.cont .box [FV.val (PV.int .i64 x9), FV.val (PV.int .i64 x10), FV.val (PV.str x11)])), (6, SV.home (OV.flat (FV.val (PV.int .i64 x12)))), (7, SV.home (OV.flat (FV.own (some 3) x13 []))), (8, SV.home (OV.flat (FV.val (PV.int .i64 x14))))] = f19_vestryref13_Eval.l0.step rec n (fun x0 x1 x2 x3 x4 x5 x6 x7 x8 x9 x10 x11 x12 x13 x14 => loopAt C rec n 19 [1, 1, 1, 1, 1, 0, 1, 0] [] m [(1, SV.home (OV.flat (FV.val (PV.sl (some 3) x0)))), (2, SV.home (OV.cont .box [FV.val (PV.int .i64 x1), FV.val (PV.int .i64 x2), FV.val (PV.str x3), FV.val (PV.str x4), FV.val (PV.int .i64 x5), FV.val (PV.int .i64 x6), FV.val (PV.str x7), FV.val (PV.sl (some 8) x8)])), (4, SV.home (OV.cont .box [FV.val (PV.int .i64 x9), FV.val (PV.int .i64 x10), FV.val (PV.str x11)])), (6, SV.home (OV.flat (FV.val (PV.int .i64 x12)))), (7, SV.home (OV.flat (FV.own (some 3) x13 []))), (8, SV.home (OV.flat (FV.val (PV.int .i64 x14))))]) x0 x1 x2 x3 x4 x5 x6 x7 x8 x9 x10 x11 x12 x13 x14 from by kernel_rfl).trans (by rw [ih]; rfl)

noncomputable def f19_vestryref13_Eval.pre (rec : Rec) (n : Nat) (l0 : List PV → Int → Int → List UInt8 → List UInt8 → Int → Int → List UInt8 → List PV → Int → Int → List UInt8 → Int → List PV → Int → Option (List OV × List OV)) (a0 : Int) (a1 : Int) (a2 : List UInt8) (a3 : List UInt8) (a4 : Int) (a5 : Int) (a6 : List UInt8) (a7 : List PV) (a8 : List PV) : Option (List OV × List OV) :=
  ifB (a0 == (1 : Int))
  (callB (rec 37 [OV.flat (FV.val (PV.agg [PV.int .i64 a4, PV.int .i64 a5, PV.str a6]))]) fun r1 => needB (okOs Go.Proofs.Try.prog [23, 25] [] (Prod.fst r1)) <|
  some ([OV.flat (FV.val (PV.agg [PV.int .i64 (PV.toI (List.headD (PV.cells (FV.pv (OV.fv (List.headD (Prod.fst r1) (OV.flat FV.gone))))) PV.undef)), PV.int .i64 (PV.toI (List.headD (List.tail (PV.cells (FV.pv (OV.fv (List.headD (Prod.fst r1) (OV.flat FV.gone)))))) PV.undef)), PV.str (PV.toS (List.headD (List.tail (List.tail (PV.cells (FV.pv (OV.fv (List.headD (Prod.fst r1) (OV.flat FV.gone))))))) PV.undef))])), OV.flat (FV.val (PV.int .i64 (PV.toI (FV.pv (OV.fv (List.headD (List.tail (Prod.fst r1)) (OV.flat FV.gone)))))))], []))
  (ifB (a0 == (2 : Int))
  (ifB (a4 != (1 : Int))
  (some ([OV.flat (FV.val (PV.agg [PV.int .i64 (0 : Int), PV.int .i64 (0 : Int), PV.str ([] : List UInt8)])), OV.flat (FV.val (PV.int .i64 (12 : Int)))], []))
  (ifB (decide (a5 < (0 : Int)))
  (some ([OV.flat (FV.val (PV.agg [PV.int .i64 (0 : Int), PV.int .i64 (0 : Int), PV.str ([] : List UInt8)])), OV.flat (FV.val (PV.int .i64 (12 : Int)))], []))
  (ifB (decide (a5 ≥ ((List.length a8 : Nat) : Int)))
  (some ([OV.flat (FV.val (PV.agg [PV.int .i64 (0 : Int), PV.int .i64 (0 : Int), PV.str ([] : List UInt8)])), OV.flat (FV.val (PV.int .i64 (12 : Int)))], []))
  (needB (decide ((0 : Int) ≤ a5)) <|
  needB (decide (a5 < ((List.length a8 : Nat) : Int))) <|
  needB (hasT Go.Proofs.Try.prog 23 (nthP a8 (Int.toNat a5))) <|
  callB (rec 37 [OV.flat (FV.val (PV.agg [PV.int .i64 (PV.toI (List.headD (PV.cells (nthP a8 (Int.toNat a5))) PV.undef)), PV.int .i64 (PV.toI (List.headD (List.tail (PV.cells (nthP a8 (Int.toNat a5)))) PV.undef)), PV.str (PV.toS (List.headD (List.tail (List.tail (PV.cells (nthP a8 (Int.toNat a5))))) PV.undef))]))]) fun r2 => needB (okOs Go.Proofs.Try.prog [23, 25] [] (Prod.fst r2)) <|
  some ([OV.flat (FV.val (PV.agg [PV.int .i64 (PV.toI (List.headD (PV.cells (FV.pv (OV.fv (List.headD (Prod.fst r2) (OV.flat FV.gone))))) PV.undef)), PV.int .i64 (PV.toI (List.headD (List.tail (PV.cells (FV.pv (OV.fv (List.headD (Prod.fst r2) (OV.flat FV.gone)))))) PV.undef)), PV.str (PV.toS (List.headD (List.tail (List.tail (PV.cells (FV.pv (OV.fv (List.headD (Prod.fst r2) (OV.flat FV.gone))))))) PV.undef))])), OV.flat (FV.val (PV.int .i64 (PV.toI (FV.pv (OV.fv (List.headD (List.tail (Prod.fst r2)) (OV.flat FV.gone)))))))], [])))))
  (ifB (a0 == (3 : Int))
  (ifB (((List.length a7 : Nat) : Int) != (2 : Int))
  (some ([OV.flat (FV.val (PV.agg [PV.int .i64 (0 : Int), PV.int .i64 (0 : Int), PV.str ([] : List UInt8)])), OV.flat (FV.val (PV.int .i64 (4 : Int)))], []))
  (l0 a8 a0 a1 a2 a3 a4 a5 a6 a7 (0 : Int) (0 : Int) ([] : List UInt8) (2 : Int) [] (0 : Int)))
  (ifB (a0 == (4 : Int))
  (ifB (((List.length a7 : Nat) : Int) != (1 : Int))
  (some ([OV.flat (FV.val (PV.agg [PV.int .i64 (0 : Int), PV.int .i64 (0 : Int), PV.str ([] : List UInt8)])), OV.flat (FV.val (PV.int .i64 (4 : Int)))], []))
  (l0 a8 a0 a1 a2 a3 a4 a5 a6 a7 (0 : Int) (0 : Int) ([] : List UInt8) (1 : Int) [] (0 : Int)))
  (ifB (a0 == (5 : Int))
  (ifB (((List.length a7 : Nat) : Int) != (1 : Int))
  (some ([OV.flat (FV.val (PV.agg [PV.int .i64 (0 : Int), PV.int .i64 (0 : Int), PV.str ([] : List UInt8)])), OV.flat (FV.val (PV.int .i64 (4 : Int)))], []))
  (l0 a8 a0 a1 a2 a3 a4 a5 a6 a7 (0 : Int) (0 : Int) ([] : List UInt8) (1 : Int) [] (0 : Int)))
  (ifB (a0 == (6 : Int))
  (ifB (((List.length a7 : Nat) : Int) != (1 : Int))
  (some ([OV.flat (FV.val (PV.agg [PV.int .i64 (0 : Int), PV.int .i64 (0 : Int), PV.str ([] : List UInt8)])), OV.flat (FV.val (PV.int .i64 (4 : Int)))], []))
  (l0 a8 a0 a1 a2 a3 a4 a5 a6 a7 (0 : Int) (0 : Int) ([] : List UInt8) (1 : Int) [] (0 : Int)))
  (some ([OV.flat (FV.val (PV.agg [PV.int .i64 (0 : Int), PV.int .i64 (0 : Int), PV.str ([] : List UInt8)])), OV.flat (FV.val (PV.int .i64 (4 : Int)))], [])))))))

noncomputable def f19_vestryref13_Eval (rec : Rec) (n : Nat) (a0 : Int) (a1 : Int) (a2 : List UInt8) (a3 : List UInt8) (a4 : Int) (a5 : Int) (a6 : List UInt8) (a7 : List PV) (a8 : List PV) : Option (List OV × List OV) := f19_vestryref13_Eval.pre rec n (f19_vestryref13_Eval.l0 rec n n) a0 a1 a2 a3 a4 a5 a6 a7 a8

theorem f19_vestryref13_Eval_eq (rec : Rec) (n : Nat) (a0 : Int) (a1 : Int) (a2 : List UInt8) (a3 : List UInt8) (a4 : Int) (a5 : Int) (a6 : List UInt8) (a7 : List PV) (a8 : List PV) : callBody C rec n 19 [OV.flat (FV.val (PV.agg [PV.int .i64 a0, PV.int .i64 a1, PV.str a2, PV.str a3, PV.int .i64 a4, PV.int .i64 a5, PV.str a6, PV.sl (some 8) a7])), OV.flat (FV.val (PV.sl (some 3) a8))] = f19_vestryref13_Eval rec n a0 a1 a2 a3 a4 a5 a6 a7 a8 := by
  have i0 : (fun x0 x1 x2 x3 x4 x5 x6 x7 x8 x9 x10 x11 x12 x13 x14 => loopAt C rec n 19 [1, 1, 1, 1, 1, 0, 1, 0] [] n [(1, SV.home (OV.flat (FV.val (PV.sl (some 3) x0)))), (2, SV.home (OV.cont .box [FV.val (PV.int .i64 x1), FV.val (PV.int .i64 x2), FV.val (PV.str x3), FV.val (PV.str x4), FV.val (PV.int .i64 x5), FV.val (PV.int .i64 x6), FV.val (PV.str x7), FV.val (PV.sl (some 8) x8)])), (4, SV.home (OV.cont .box [FV.val (PV.int .i64 x9), FV.val (PV.int .i64 x10), FV.val (PV.str x11)])), (6, SV.home (OV.flat (FV.val (PV.int .i64 x12)))), (7, SV.home (OV.flat (FV.own (some 3) x13 []))), (8, SV.home (OV.flat (FV.val (PV.int .i64 x14))))]) = f19_vestryref13_Eval.l0 rec n n := funext fun x0 => funext fun x1 => funext fun x2 => funext fun x3 => funext fun x4 => funext fun x5 => funext fun x6 => funext fun x7 => funext fun x8 => funext fun x9 => funext fun x10 => funext fun x11 => funext fun x12 => funext fun x13 => funext fun x14 => f19_vestryref13_Eval.l0_eq rec n n x0 x1 x2 x3 x4 x5 x6 x7 x8 x9 x10 x11 x12 x13 x14
  exact (show callBody C rec n 19 [OV.flat (FV.val (PV.agg [PV.int .i64 a0, PV.int .i64 a1, PV.str a2, PV.str a3, PV.int .i64 a4, PV.int .i64 a5, PV.str a6, PV.sl (some 8) a7])), OV.flat (FV.val (PV.sl (some 3) a8))] = f19_vestryref13_Eval.pre rec n (fun x0 x1 x2 x3 x4 x5 x6 x7 x8 x9 x10 x11 x12 x13 x14 => loopAt C rec n 19 [1, 1, 1, 1, 1, 0, 1, 0] [] n [(1, SV.home (OV.flat (FV.val (PV.sl (some 3) x0)))), (2, SV.home (OV.cont .box [FV.val (PV.int .i64 x1), FV.val (PV.int .i64 x2), FV.val (PV.str x3), FV.val (PV.str x4), FV.val (PV.int .i64 x5), FV.val (PV.int .i64 x6), FV.val (PV.str x7), FV.val (PV.sl (some 8) x8)])), (4, SV.home (OV.cont .box [FV.val (PV.int .i64 x9), FV.val (PV.int .i64 x10), FV.val (PV.str x11)])), (6, SV.home (OV.flat (FV.val (PV.int .i64 x12)))), (7, SV.home (OV.flat (FV.own (some 3) x13 []))), (8, SV.home (OV.flat (FV.val (PV.int .i64 x14))))]) a0 a1 a2 a3 a4 a5 a6 a7 a8 from by kernel_rfl).trans (by rw [i0]; rfl)

noncomputable def f20_vestryref13_True (rec : Rec) (n : Nat) (a0 : Int) (a1 : Int) (a2 : List UInt8) (a3 : List UInt8) (a4 : Int) (a5 : Int) (a6 : List UInt8) (a7 : List PV) (a8 : List PV) : Option (List OV × List OV) :=
  callB (rec 19 [OV.flat (FV.val (PV.agg [PV.int .i64 a0, PV.int .i64 a1, PV.str a2, PV.str a3, PV.int .i64 a4, PV.int .i64 a5, PV.str a6, PV.sl (some 8) a7])), OV.flat (FV.val (PV.sl (some 3) a8))]) fun r1 => needB (okOs Go.Proofs.Try.prog [23, 25] [] (Prod.fst r1)) <|
  ifB (PV.toI (FV.pv (OV.fv (List.headD (List.tail (Prod.fst r1)) (OV.flat FV.gone)))) == (0 : Int))
  (ifB (PV.toI (List.headD (PV.cells (FV.pv (OV.fv (List.headD (Prod.fst r1) (OV.flat FV.gone))))) PV.undef) == (2 : Int))
  (some ([OV.flat (FV.val (PV.bool false)), OV.flat (FV.val (PV.int .i64 (9 : Int)))], []))
  (ifB (PV.toI (FV.pv (OV.fv (List.headD (List.tail (Prod.fst r1)) (OV.flat FV.gone)))) == (0 : Int))
  (callB (rec 39 [OV.flat (FV.val (PV.agg [PV.int .i64 (PV.toI (List.headD (PV.cells (FV.pv (OV.fv (List.headD (Prod.fst r1) (OV.flat FV.gone))))) PV.undef)), PV.int .i64 (PV.toI (List.headD (List.tail (PV.cells (FV.pv (OV.fv (List.headD (Prod.fst r1) (OV.flat FV.gone)))))) PV.undef)), PV.str (PV.toS (List.headD (List.tail (List.tail (PV.cells (FV.pv (OV.fv (List.headD (Prod.fst r1) (OV.flat FV.gone))))))) PV.undef))]))]) fun r2 => needB (okOs Go.Proofs.Try.prog [4] [] (Prod.fst r2)) <|
  some ([OV.flat (FV.val (PV.bool (PV.toB (FV.pv (OV.fv (List.headD (Prod.fst r2) (OV.flat FV.gone))))))), OV.flat (FV.val (PV.int .i64 (PV.toI (FV.pv (OV.fv (List.headD (List.tail (Prod.fst r1)) (OV.flat FV.gone)))))))], []))
  (some ([OV.flat (FV.val (PV.bool false)), OV.flat (FV.val (PV.int .i64 (PV.toI (FV.pv (OV.fv (List.headD (List.tail (Prod.fst r1)) (OV.flat FV.gone)))))))], []))))
  (ifB (PV.toI (FV.pv (OV.fv (List.headD (List.tail (Prod.fst r1)) (OV.flat FV.gone)))) == (0 : Int))
  (callB (rec 39 [OV.flat (FV.val (PV.agg [PV.int .i64 (PV.toI (List.headD (PV.cells (FV.pv (OV.fv (List.headD (Prod.fst r1) (OV.flat FV.gone))))) PV.undef)), PV.int .i64 (PV.toI (List.headD (List.tail (PV.cells (FV.pv (OV.fv (List.headD (Prod.fst r1) (OV.flat FV.gone)))))) PV.undef)), PV.str (PV.toS (List.headD (List.tail (List.tail (PV.cells (FV.pv (OV.fv (List.headD (Prod.fst r1) (OV.flat FV.gone))))))) PV.undef))]))]) fun r3 => needB (okOs Go.Proofs.Try.prog [4] [] (Prod.fst r3)) <|
  some ([OV.flat (FV.val (PV.bool (PV.toB (FV.pv (OV.fv (List.headD (Prod.fst r3) (OV.flat FV.gone))))))), OV.flat (FV.val (PV.int .i64 (PV.toI (FV.pv (OV.fv (List.headD (List.tail (Prod.fst r1)) (OV.flat FV.gone)))))))], []))
  (some ([OV.flat (FV.val (PV.bool false)), OV.flat (FV.val (PV.int .i64 (PV.toI (FV.pv (OV.fv (List.headD (List.tail (Prod.fst r1)) (OV.flat FV.gone)))))))], [])))

theorem f20_vestryref13_True_eq (rec : Rec) (n : Nat) (a0 : Int) (a1 : Int) (a2 : List UInt8) (a3 : List UInt8) (a4 : Int) (a5 : Int) (a6 : List UInt8) (a7 : List PV) (a8 : List PV) : callBody C rec n 20 [OV.flat (FV.val (PV.agg [PV.int .i64 a0, PV.int .i64 a1, PV.str a2, PV.str a3, PV.int .i64 a4, PV.int .i64 a5, PV.str a6, PV.sl (some 8) a7])), OV.flat (FV.val (PV.sl (some 3) a8))] = f20_vestryref13_True rec n a0 a1 a2 a3 a4 a5 a6 a7 a8 := by kernel_rfl

noncomputable def f21_vestryref07_Same.l0.step (rec : Rec) (n : Nat) (self_l0 : List PV → List PV → Int → Option (List OV × List OV)) (x0 : List PV) (x1 : List PV) (x2 : Int) : Option (List OV × List OV) :=
  ifB (decide (x2 < ((List.length x0 : Nat) : Int)))
  (needB (decide ((0 : Int) ≤ x2)) <|
  needB (decide (x2 < ((List.length x0 : Nat) : Int))) <|
  needB (hasT Go.Proofs.Try.prog 23 (nthP x0 (Int.toNat x2))) <|
  needB (decide ((0 : Int) ≤ x2)) <|
  needB (decide (x2 < ((List.length x1 : Nat) : Int))) <|
  needB (hasT Go.Proofs.Try.prog 23 (nthP x1 (Int.toNat x2))) <|
  ifB (!(((PV.toI (List.headD (PV.cells (nthP x0 (Int.toNat x2))) PV.undef)) == (PV.toI (List.headD (PV.cells (nthP x1 (Int.toNat x2))) PV.undef))) && (((PV.toI (List.headD (List.tail (PV.cells (nthP x0 (Int.toNat x2)))) PV.undef)) == (PV.toI (List.headD (List.tail (PV.cells (nthP x1 (Int.toNat x2)))) PV.undef))) && (((PV.toS (List.headD (List.tail (List.tail (PV.cells (nthP x0 (Int.toNat x2))))) PV.undef)) == (PV.toS (List.headD (List.tail (List.tail (PV.cells (nthP x1 (Int.toNat x2))))) PV.undef))) && (true)))))
  (some ([OV.flat (FV.val (PV.bool false))], []))
  (self_l0 x0 x1 (IntKind.wrap .i64 (x2 + (1 : Int)))))
  (some ([OV.flat (FV.val (PV.bool true))], []))

noncomputable def f21_vestryref07_Same.l0 (rec : Rec) (n : Nat) : Nat → List PV → List PV → Int → Option (List OV × List OV)
  | 0, _, _, _ => none
  | m + 1, x0, x1, x2 => f21_vestryref07_Same.l0.step rec n (f21_vestryref07_Same.l0 rec n m) x0 x1 x2

theorem f21_vestryref07_Same.l0_eq (rec : Rec) (n : Nat) : ∀ (m : Nat) (x0 : List PV) (x1 : List PV) (x2 : Int), loopAt C rec n 21 [1, 1, 0, 1, 0] [] m [(0, SV.home (OV.flat (FV.val (PV.sl (some 3) x0)))), (1, SV.home (OV.flat (FV.val (PV.sl (some 3) x1)))), (5, SV.home (OV.flat (FV.val (PV.int .i64 x2))))] = f21_vestryref07_Same.l0 rec n m x0 x1 x2
  | 0, x0, x1, x2 => by kernel_rfl
  | m + 1, x0, x1, x2 => by
    have ih : (fun x0 x1 x2 => loopAt C rec n 21 [1, 1, 0, 1, 0] [] m [(0, SV.home (OV.flat (FV.val (PV.sl (some 3) x0)))), (1, SV.home (OV.flat (FV.val (PV.sl (some 3) x1)))), (5, SV.home (OV.flat (FV.val (PV.int .i64 x2))))]) = f21_vestryref07_Same.l0 rec n m := funext fun x0 => funext fun x1 => funext fun x2 => f21_vestryref07_Same.l0_eq rec n m x0 x1 x2
    exact (show loopAt C rec n 21 [1, 1, 0, 1, 0] [] (m + 1) [(0, SV.home (OV.flat (FV.val (PV.sl (some 3) x0)))), (1, SV.home (OV.flat (FV.val (PV.sl (some 3) x1)))), (5, SV.home (OV.flat (FV.val (PV.int .i64 x2))))] = f21_vestryref07_Same.l0.step rec n (fun x0 x1 x2 => loopAt C rec n 21 [1, 1, 0, 1, 0] [] m [(0, SV.home (OV.flat (FV.val (PV.sl (some 3) x0)))), (1, SV.home (OV.flat (FV.val (PV.sl (some 3) x1)))), (5, SV.home (OV.flat (FV.val (PV.int .i64 x2))))]) x0 x1 x2 from by kernel_rfl).trans (by rw [ih]; rfl)

noncomputable def f21_vestryref07_Same.pre (rec : Rec) (n : Nat) (l0 : List PV → List PV → Int → Option (List OV × List OV)) (a0 : List PV) (a1 : List PV) : Option (List OV × List OV) :=
  ifB (((List.length a0 : Nat) : Int) != ((List.length a1 : Nat) : Int))
  (some ([OV.flat (FV.val (PV.bool false))], []))
  (l0 a0 a1 (0 : Int))

noncomputable def f21_vestryref07_Same (rec : Rec) (n : Nat) (a0 : List PV) (a1 : List PV) : Option (List OV × List OV) := f21_vestryref07_Same.pre rec n (f21_vestryref07_Same.l0 rec n n) a0 a1

theorem f21_vestryref07_Same_eq (rec : Rec) (n : Nat) (a0 : List PV) (a1 : List PV) : callBody C rec n 21 [OV.flat (FV.val (PV.sl (some 3) a0)), OV.flat (FV.val (PV.sl (some 3) a1))] = f21_vestryref07_Same rec n a0 a1 := by
  have i0 : (fun x0 x1 x2 => loopAt C rec n 21 [1, 1, 0, 1, 0] [] n [(0, SV.home (OV.flat (FV.val (PV.sl (some 3) x0)))), (1, SV.home (OV.flat (FV.val (PV.sl (some 3) x1)))), (5, SV.home (OV.flat (FV.val (PV.int .i64 x2))))]) = f21_vestryref07_Same.l0 rec n n := funext fun x0 => funext fun x1 => funext fun x2 => f21_vestryref07_Same.l0_eq rec n n x0 x1 x2
  exact (show callBody C rec n 21 [OV.flat (FV.val (PV.sl (some 3) a0)), OV.flat (FV.val (PV.sl (some 3) a1))] = f21_vestryref07_Same.pre rec n (fun x0 x1 x2 => loopAt C rec n 21 [1, 1, 0, 1, 0] [] n [(0, SV.home (OV.flat (FV.val (PV.sl (some 3) x0)))), (1, SV.home (OV.flat (FV.val (PV.sl (some 3) x1)))), (5, SV.home (OV.flat (FV.val (PV.int .i64 x2))))]) a0 a1 from by kernel_rfl).trans (by rw [i0]; rfl)

noncomputable def f22_vestrylaw07_Text (rec : Rec) (n : Nat) (a0 : List UInt8) : Option (List OV × List OV) :=
  some ([OV.flat (FV.val (PV.agg [PV.int .i64 (2 : Int), PV.int .i64 (0 : Int), PV.str a0]))], [])

theorem f22_vestrylaw07_Text_eq (rec : Rec) (n : Nat) (a0 : List UInt8) : callBody C rec n 22 [OV.flat (FV.val (PV.str a0))] = f22_vestrylaw07_Text rec n a0 := by kernel_rfl

noncomputable def f23_eval_logic (rec : Rec) (n : Nat) (a0 : Int) (a1 : Int) (a2 : Int) (a3 : List UInt8) (a4 : Int) (a5 : Int) (a6 : List UInt8) : Option (List OV × List OV) :=
  ifB (a0 == (2 : Int))
  (ifB (a1 == (2 : Int))
  (some ([OV.flat (FV.val (PV.agg [PV.int .i64 (0 : Int), PV.int .i64 (0 : Int), PV.str ([] : List UInt8)])), OV.flat (FV.val (PV.int .i64 (9 : Int)))], []))
  (ifB (a4 == (2 : Int))
  (some ([OV.flat (FV.val (PV.agg [PV.int .i64 (0 : Int), PV.int .i64 (0 : Int), PV.str ([] : List UInt8)])), OV.flat (FV.val (PV.int .i64 (9 : Int)))], []))
  (callB (rec 40 [OV.flat (FV.val (PV.agg [PV.int .i64 a1, PV.int .i64 a2, PV.str a3]))]) fun r1 => needB (okOs Go.Proofs.Try.prog [4] [] (Prod.fst r1)) <|
  ifB (PV.toB (FV.pv (OV.fv (List.headD (Prod.fst r1) (OV.flat FV.gone)))))
  (some ([OV.flat (FV.val (PV.agg [PV.int .i64 (1 : Int), PV.int .i64 (0 : Int), PV.str ([] : List UInt8)])), OV.flat (FV.val (PV.int .i64 (0 : Int)))], []))
  (callB (rec 40 [OV.flat (FV.val (PV.agg [PV.int .i64 a4, PV.int .i64 a5, PV.str a6]))]) fun r2 => needB (okOs Go.Proofs.Try.prog [4] [] (Prod.fst r2)) <|
  ifB (PV.toB (FV.pv (OV.fv (List.headD (Prod.fst r2) (OV.flat FV.gone)))))
  (some ([OV.flat (FV.val (PV.agg [PV.int .i64 (1 : Int), PV.int .i64 (0 : Int), PV.str ([] : List UInt8)])), OV.flat (FV.val (PV.int .i64 (0 : Int)))], []))
  (ifB (a1 == (0 : Int))
  (some ([OV.flat (FV.val (PV.agg [PV.int .i64 (0 : Int), PV.int .i64 (0 : Int), PV.str ([] : List UInt8)])), OV.flat (FV.val (PV.int .i64 (0 : Int)))], []))
  (ifB (a4 == (0 : Int))
  (some ([OV.flat (FV.val (PV.agg [PV.int .i64 (0 : Int), PV.int .i64 (0 : Int), PV.str ([] : List UInt8)])), OV.flat (FV.val (PV.int .i64 (0 : Int)))], []))
  (some ([OV.flat (FV.val (PV.agg [PV.int .i64 (1 : Int), PV.int .i64 (1 : Int), PV.str ([] : List UInt8)])), OV.flat (FV.val (PV.int .i64 (0 : Int)))], []))))))))
  (ifB (a1 == (2 : Int))
  (some ([OV.flat (FV.val (PV.agg [PV.int .i64 (0 : Int), PV.int .i64 (0 : Int), PV.str ([] : List UInt8)])), OV.flat (FV.val (PV.int .i64 (9 : Int)))], []))
  (ifB (a4 == (2 : Int))
  (some ([OV.flat (FV.val (PV.agg [PV.int .i64 (0 : Int), PV.int .i64 (0 : Int), PV.str ([] : List UInt8)])), OV.flat (FV.val (PV.int .i64 (9 : Int)))], []))
  (callB (rec 36 [OV.flat (FV.val (PV.agg [PV.int .i64 a1, PV.int .i64 a2, PV.str a3]))]) fun r3 => needB (okOs Go.Proofs.Try.prog [4] [] (Prod.fst r3)) <|
  ifB (PV.toB (FV.pv (OV.fv (List.headD (Prod.fst r3) (OV.flat FV.gone)))))
  (some ([OV.flat (FV.val (PV.agg [PV.int .i64 (1 : Int), PV.int .i64 (1 : Int), PV.str ([] : List UInt8)])), OV.flat (FV.val (PV.int .i64 (0 : Int)))], []))
  (callB (rec 36 [OV.flat (FV.val (PV.agg [PV.int .i64 a4, PV.int .i64 a5, PV.str a6]))]) fun r4 => needB (okOs Go.Proofs.Try.prog [4] [] (Prod.fst r4)) <|
  ifB (PV.toB (FV.pv (OV.fv (List.headD (Prod.fst r4) (OV.flat FV.gone)))))
  (some ([OV.flat (FV.val (PV.agg [PV.int .i64 (1 : Int), PV.int .i64 (1 : Int), PV.str ([] : List UInt8)])), OV.flat (FV.val (PV.int .i64 (0 : Int)))], []))
  (ifB (a1 == (0 : Int))
  (some ([OV.flat (FV.val (PV.agg [PV.int .i64 (0 : Int), PV.int .i64 (0 : Int), PV.str ([] : List UInt8)])), OV.flat (FV.val (PV.int .i64 (0 : Int)))], []))
  (ifB (a4 == (0 : Int))
  (some ([OV.flat (FV.val (PV.agg [PV.int .i64 (0 : Int), PV.int .i64 (0 : Int), PV.str ([] : List UInt8)])), OV.flat (FV.val (PV.int .i64 (0 : Int)))], []))
  (some ([OV.flat (FV.val (PV.agg [PV.int .i64 (1 : Int), PV.int .i64 (0 : Int), PV.str ([] : List UInt8)])), OV.flat (FV.val (PV.int .i64 (0 : Int)))], []))))))))

theorem f23_eval_logic_eq (rec : Rec) (n : Nat) (a0 : Int) (a1 : Int) (a2 : Int) (a3 : List UInt8) (a4 : Int) (a5 : Int) (a6 : List UInt8) : callBody C rec n 23 [OV.flat (FV.val (PV.int .i64 a0)), OV.flat (FV.val (PV.agg [PV.int .i64 a1, PV.int .i64 a2, PV.str a3])), OV.flat (FV.val (PV.agg [PV.int .i64 a4, PV.int .i64 a5, PV.str a6]))] = f23_eval_logic rec n a0 a1 a2 a3 a4 a5 a6 := by kernel_rfl

noncomputable def f24_eval_test (rec : Rec) (n : Nat) (a0 : Int) (a1 : Int) (a2 : Int) (a3 : List UInt8) (a4 : Int) (a5 : Int) (a6 : List UInt8) : Option (List OV × List OV) :=
  ifB (a1 != a4)
  (some ([OV.flat (FV.val (PV.agg [PV.int .i64 (0 : Int), PV.int .i64 (0 : Int), PV.str ([] : List UInt8)])), OV.flat (FV.val (PV.int .i64 (9 : Int)))], []))
  (callB (rec 41 [OV.flat (FV.val (PV.agg [PV.int .i64 a1, PV.int .i64 a2, PV.str a3])), OV.flat (FV.val (PV.agg [PV.int .i64 a4, PV.int .i64 a5, PV.str a6]))]) fun r1 => needB (okOs Go.Proofs.Try.prog [3] [] (Prod.fst r1)) <|
  ifB (a0 == (4 : Int))
  (callB (rec 42 [OV.flat (FV.val (PV.bool (PV.toI (FV.pv (OV.fv (List.headD (Prod.fst r1) (OV.flat FV.gone)))) != (0 : Int))))]) fun r2 => needB (okOs Go.Proofs.Try.prog [23, 25] [] (Prod.fst r2)) <|
  some ([OV.flat (FV.val (PV.agg [PV.int .i64 (PV.toI (List.headD (PV.cells (FV.pv (OV.fv (List.headD (Prod.fst r2) (OV.flat FV.gone))))) PV.undef)), PV.int .i64 (PV.toI (List.headD (List.tail (PV.cells (FV.pv (OV.fv (List.headD (Prod.fst r2) (OV.flat FV.gone)))))) PV.undef)), PV.str (PV.toS (List.headD (List.tail (List.tail (PV.cells (FV.pv (OV.fv (List.headD (Prod.fst r2) (OV.flat FV.gone))))))) PV.undef))])), OV.flat (FV.val (PV.int .i64 (PV.toI (FV.pv (OV.fv (List.headD (List.tail (Prod.fst r2)) (OV.flat FV.gone)))))))], []))
  (ifB (a0 == (6 : Int))
  (ifB (PV.toI (FV.pv (OV.fv (List.headD (Prod.fst r1) (OV.flat FV.gone)))) == (0 : Int))
  (callB (rec 42 [OV.flat (FV.val (PV.bool true))]) fun r3 => needB (okOs Go.Proofs.Try.prog [23, 25] [] (Prod.fst r3)) <|
  some ([OV.flat (FV.val (PV.agg [PV.int .i64 (PV.toI (List.headD (PV.cells (FV.pv (OV.fv (List.headD (Prod.fst r3) (OV.flat FV.gone))))) PV.undef)), PV.int .i64 (PV.toI (List.headD (List.tail (PV.cells (FV.pv (OV.fv (List.headD (Prod.fst r3) (OV.flat FV.gone)))))) PV.undef)), PV.str (PV.toS (List.headD (List.tail (List.tail (PV.cells (FV.pv (OV.fv (List.headD (Prod.fst r3) (OV.flat FV.gone))))))) PV.undef))])), OV.flat (FV.val (PV.int .i64 (PV.toI (FV.pv (OV.fv (List.headD (List.tail (Prod.fst r3)) (OV.flat FV.gone)))))))], []))
  (callB (rec 42 [OV.flat (FV.val (PV.bool (decide (PV.toI (FV.pv (OV.fv (List.headD (Prod.fst r1) (OV.flat FV.gone)))) < (0 : Int)))))]) fun r4 => needB (okOs Go.Proofs.Try.prog [23, 25] [] (Prod.fst r4)) <|
  some ([OV.flat (FV.val (PV.agg [PV.int .i64 (PV.toI (List.headD (PV.cells (FV.pv (OV.fv (List.headD (Prod.fst r4) (OV.flat FV.gone))))) PV.undef)), PV.int .i64 (PV.toI (List.headD (List.tail (PV.cells (FV.pv (OV.fv (List.headD (Prod.fst r4) (OV.flat FV.gone)))))) PV.undef)), PV.str (PV.toS (List.headD (List.tail (List.tail (PV.cells (FV.pv (OV.fv (List.headD (Prod.fst r4) (OV.flat FV.gone))))))) PV.undef))])), OV.flat (FV.val (PV.int .i64 (PV.toI (FV.pv (OV.fv (List.headD (List.tail (Prod.fst r4)) (OV.flat FV.gone)))))))], [])))
  (ifB (a0 == (5 : Int))
  (callB (rec 42 [OV.flat (FV.val (PV.bool (decide (PV.toI (FV.pv (OV.fv (List.headD (Prod.fst r1) (OV.flat FV.gone)))) < (0 : Int)))))]) fun r5 => needB (okOs Go.Proofs.Try.prog [23, 25] [] (Prod.fst r5)) <|
  some ([OV.flat (FV.val (PV.agg [PV.int .i64 (PV.toI (List.headD (PV.cells (FV.pv (OV.fv (List.headD (Prod.fst r5) (OV.flat FV.gone))))) PV.undef)), PV.int .i64 (PV.toI (List.headD (List.tail (PV.cells (FV.pv (OV.fv (List.headD (Prod.fst r5) (OV.flat FV.gone)))))) PV.undef)), PV.str (PV.toS (List.headD (List.tail (List.tail (PV.cells (FV.pv (OV.fv (List.headD (Prod.fst r5) (OV.flat FV.gone))))))) PV.undef))])), OV.flat (FV.val (PV.int .i64 (PV.toI (FV.pv (OV.fv (List.headD (List.tail (Prod.fst r5)) (OV.flat FV.gone)))))))], []))
  (ifB (a0 == (8 : Int))
  (ifB (PV.toI (FV.pv (OV.fv (List.headD (Prod.fst r1) (OV.flat FV.gone)))) == (0 : Int))
  (callB (rec 42 [OV.flat (FV.val (PV.bool true))]) fun r6 => needB (okOs Go.Proofs.Try.prog [23, 25] [] (Prod.fst r6)) <|
  some ([OV.flat (FV.val (PV.agg [PV.int .i64 (PV.toI (List.headD (PV.cells (FV.pv (OV.fv (List.headD (Prod.fst r6) (OV.flat FV.gone))))) PV.undef)), PV.int .i64 (PV.toI (List.headD (List.tail (PV.cells (FV.pv (OV.fv (List.headD (Prod.fst r6) (OV.flat FV.gone)))))) PV.undef)), PV.str (PV.toS (List.headD (List.tail (List.tail (PV.cells (FV.pv (OV.fv (List.headD (Prod.fst r6) (OV.flat FV.gone))))))) PV.undef))])), OV.flat (FV.val (PV.int .i64 (PV.toI (FV.pv (OV.fv (List.headD (List.tail (Prod.fst r6)) (OV.flat FV.gone)))))))], []))
  (callB (rec 42 [OV.flat (FV.val (PV.bool (decide (PV.toI (FV.pv (OV.fv (List.headD (Prod.fst r1) (OV.flat FV.gone)))) > (0 : Int)))))]) fun r7 => needB (okOs Go.Proofs.Try.prog [23, 25] [] (Prod.fst r7)) <|
  some ([OV.flat (FV.val (PV.agg [PV.int .i64 (PV.toI (List.headD (PV.cells (FV.pv (OV.fv (List.headD (Prod.fst r7) (OV.flat FV.gone))))) PV.undef)), PV.int .i64 (PV.toI (List.headD (List.tail (PV.cells (FV.pv (OV.fv (List.headD (Prod.fst r7) (OV.flat FV.gone)))))) PV.undef)), PV.str (PV.toS (List.headD (List.tail (List.tail (PV.cells (FV.pv (OV.fv (List.headD (Prod.fst r7) (OV.flat FV.gone))))))) PV.undef))])), OV.flat (FV.val (PV.int .i64 (PV.toI (FV.pv (OV.fv (List.headD (List.tail (Prod.fst r7)) (OV.flat FV.gone)))))))], [])))
  (ifB (a0 == (7 : Int))
  (callB (rec 42 [OV.flat (FV.val (PV.bool (decide (PV.toI (FV.pv (OV.fv (List.headD (Prod.fst r1) (OV.flat FV.gone)))) > (0 : Int)))))]) fun r8 => needB (okOs Go.Proofs.Try.prog [23, 25] [] (Prod.fst r8)) <|
  some ([OV.flat (FV.val (PV.agg [PV.int .i64 (PV.toI (List.headD (PV.cells (FV.pv (OV.fv (List.headD (Prod.fst r8) (OV.flat FV.gone))))) PV.undef)), PV.int .i64 (PV.toI (List.headD (List.tail (PV.cells (FV.pv (OV.fv (List.headD (Prod.fst r8) (OV.flat FV.gone)))))) PV.undef)), PV.str (PV.toS (List.headD (List.tail (List.tail (PV.cells (FV.pv (OV.fv (List.headD (Prod.fst r8) (OV.flat FV.gone))))))) PV.undef))])), OV.flat (FV.val (PV.int .i64 (PV.toI (FV.pv (OV.fv (List.headD (List.tail (Prod.fst r8)) (OV.flat FV.gone)))))))], []))
  (callB (rec 42 [OV.flat (FV.val (PV.bool (PV.toI (FV.pv (OV.fv (List.headD (Prod.fst r1) (OV.flat FV.gone)))) == (0 : Int))))]) fun r9 => needB (okOs Go.Proofs.Try.prog [23, 25] [] (Prod.fst r9)) <|
  some ([OV.flat (FV.val (PV.agg [PV.int .i64 (PV.toI (List.headD (PV.cells (FV.pv (OV.fv (List.headD (Prod.fst r9) (OV.flat FV.gone))))) PV.undef)), PV.int .i64 (PV.toI (List.headD (List.tail (PV.cells (FV.pv (OV.fv (List.headD (Prod.fst r9) (OV.flat FV.gone)))))) PV.undef)), PV.str (PV.toS (List.headD (List.tail (List.tail (PV.cells (FV.pv (OV.fv (List.headD (Prod.fst r9) (OV.flat FV.gone))))))) PV.undef))])), OV.flat (FV.val (PV.int .i64 (PV.toI (FV.pv (OV.fv (List.headD (List.tail (Prod.fst r9)) (OV.flat FV.gone)))))))], [])))))))

theorem f24_eval_test_eq (rec : Rec) (n : Nat) (a0 : Int) (a1 : Int) (a2 : Int) (a3 : List UInt8) (a4 : Int) (a5 : Int) (a6 : List UInt8) : callBody C rec n 24 [OV.flat (FV.val (PV.int .i64 a0)), OV.flat (FV.val (PV.agg [PV.int .i64 a1, PV.int .i64 a2, PV.str a3])), OV.flat (FV.val (PV.agg [PV.int .i64 a4, PV.int .i64 a5, PV.str a6]))] = f24_eval_test rec n a0 a1 a2 a3 a4 a5 a6 := by kernel_rfl

noncomputable def f25_eval_num (rec : Rec) (n : Nat) (a0 : Int) (a1 : Int) : Option (List OV × List OV) :=
  ifB (a1 != (0 : Int))
  (some ([OV.flat (FV.val (PV.agg [PV.int .i64 (0 : Int), PV.int .i64 (0 : Int), PV.str ([] : List UInt8)])), OV.flat (FV.val (PV.int .i64 a1))], []))
  (some ([OV.flat (FV.val (PV.agg [PV.int .i64 (1 : Int), PV.int .i64 a0, PV.str ([] : List UInt8)])), OV.flat (FV.val (PV.int .i64 (0 : Int)))], []))

theorem f25_eval_num_eq (rec : Rec) (n : Nat) (a0 : Int) (a1 : Int) : callBody C rec n 25 [OV.flat (FV.val (PV.int .i64 a0)), OV.flat (FV.val (PV.int .i64 a1))] = f25_eval_num rec n a0 a1 := by kernel_rfl

noncomputable def f26_eval_reckon (rec : Rec) (n : Nat) (a0 : Int) (a1 : Int) (a2 : Int) : Option (List OV × List OV) :=
  ifB (a0 == (9 : Int))
  (ifB ((decide (IntKind.wrap .i64 (a1 + a2) > a1)) == (decide (a2 > (0 : Int))))
  (some ([OV.flat (FV.val (PV.int .i64 (IntKind.wrap .i64 (a1 + a2)))), OV.flat (FV.val (PV.int .i64 (0 : Int)))], []))
  (some ([OV.flat (FV.val (PV.int .i64 (0 : Int))), OV.flat (FV.val (PV.int .i64 (7 : Int)))], [])))
  (ifB (a0 == (10 : Int))
  (ifB ((decide (IntKind.wrap .i64 (a1 - a2) < a1)) == (decide (a2 > (0 : Int))))
  (some ([OV.flat (FV.val (PV.int .i64 (IntKind.wrap .i64 (a1 - a2)))), OV.flat (FV.val (PV.int .i64 (0 : Int)))], []))
  (some ([OV.flat (FV.val (PV.int .i64 (0 : Int))), OV.flat (FV.val (PV.int .i64 (7 : Int)))], [])))
  (ifB (a0 == (11 : Int))
  (callB (rec 43 [OV.flat (FV.val (PV.int .i64 a1)), OV.flat (FV.val (PV.int .i64 a2))]) fun r1 => needB (okOs Go.Proofs.Try.prog [3, 25] [] (Prod.fst r1)) <|
  some ([OV.flat (FV.val (PV.int .i64 (PV.toI (FV.pv (OV.fv (List.headD (Prod.fst r1) (OV.flat FV.gone))))))), OV.flat (FV.val (PV.int .i64 (PV.toI (FV.pv (OV.fv (List.headD (List.tail (Prod.fst r1)) (OV.flat FV.gone)))))))], []))
  (ifB (a2 == (0 : Int))
  (some ([OV.flat (FV.val (PV.int .i64 (0 : Int))), OV.flat (FV.val (PV.int .i64 (8 : Int)))], []))
  (ifB (a0 == (13 : Int))
  (needB (a2 != 0) <|
  some ([OV.flat (FV.val (PV.int .i64 (Int.tmod a1 a2))), OV.flat (FV.val (PV.int .i64 (0 : Int)))], []))
  (ifB (a1 == (-9223372036854775808 : Int))
  (ifB (a2 == (-1 : Int))
  (some ([OV.flat (FV.val (PV.int .i64 (0 : Int))), OV.flat (FV.val (PV.int .i64 (7 : Int)))], []))
  (needB (a2 != 0) <|
  some ([OV.flat (FV.val (PV.int .i64 (IntKind.wrap .i64 (Int.tdiv a1 a2)))), OV.flat (FV.val (PV.int .i64 (0 : Int)))], [])))
  (needB (a2 != 0) <|
  some ([OV.flat (FV.val (PV.int .i64 (IntKind.wrap .i64 (Int.tdiv a1 a2)))), OV.flat (FV.val (PV.int .i64 (0 : Int)))], [])))))))

theorem f26_eval_reckon_eq (rec : Rec) (n : Nat) (a0 : Int) (a1 : Int) (a2 : Int) : callBody C rec n 26 [OV.flat (FV.val (PV.int .i64 a0)), OV.flat (FV.val (PV.int .i64 a1)), OV.flat (FV.val (PV.int .i64 a2))] = f26_eval_reckon rec n a0 a1 a2 := by kernel_rfl

noncomputable def f27_vestryref07_Right (rec : Rec) (n : Nat) (a0 : Int) (a1 : Int) (a2 : List UInt8) : Option (List OV × List OV) :=
  ifB (decide (a0 < (0 : Int)))
  (some ([OV.flat (FV.val (PV.int .i64 (4 : Int)))], []))
  (ifB (decide (a0 > (2 : Int)))
  (some ([OV.flat (FV.val (PV.int .i64 (4 : Int)))], []))
  (ifB (a0 != (1 : Int))
  (ifB (a1 != (0 : Int))
  (some ([OV.flat (FV.val (PV.int .i64 (4 : Int)))], []))
  (ifB (a0 != (2 : Int))
  (ifB (!(a2 == ([] : List UInt8)))
  (some ([OV.flat (FV.val (PV.int .i64 (4 : Int)))], []))
  (ifB (decide (((List.length a2 : Nat) : Int) > (40 : Int)))
  (some ([OV.flat (FV.val (PV.int .i64 (2 : Int)))], []))
  (some ([OV.flat (FV.val (PV.int .i64 (0 : Int)))], []))))
  (ifB (decide (((List.length a2 : Nat) : Int) > (40 : Int)))
  (some ([OV.flat (FV.val (PV.int .i64 (2 : Int)))], []))
  (some ([OV.flat (FV.val (PV.int .i64 (0 : Int)))], [])))))
  (ifB (a0 != (2 : Int))
  (ifB (!(a2 == ([] : List UInt8)))
  (some ([OV.flat (FV.val (PV.int .i64 (4 : Int)))], []))
  (ifB (decide (((List.length a2 : Nat) : Int) > (40 : Int)))
  (some ([OV.flat (FV.val (PV.int .i64 (2 : Int)))], []))
  (some ([OV.flat (FV.val (PV.int .i64 (0 : Int)))], []))))
  (ifB (decide (((List.length a2 : Nat) : Int) > (40 : Int)))
  (some ([OV.flat (FV.val (PV.int .i64 (2 : Int)))], []))
  (some ([OV.flat (FV.val (PV.int .i64 (0 : Int)))], []))))))

theorem f27_vestryref07_Right_eq (rec : Rec) (n : Nat) (a0 : Int) (a1 : Int) (a2 : List UInt8) : callBody C rec n 27 [OV.flat (FV.val (PV.agg [PV.int .i64 a0, PV.int .i64 a1, PV.str a2]))] = f27_vestryref07_Right rec n a0 a1 a2 := by kernel_rfl

noncomputable def f28_vestryref13_both (rec : Rec) (n : Nat) (a0 : Int) (a1 : Int) (a2 : Int) (a3 : List UInt8) (a4 : Int) (a5 : Int) (a6 : List UInt8) : Option (List OV × List OV) :=
  ifB (a1 == (2 : Int))
  (some ([OV.flat (FV.val (PV.agg [PV.int .i64 (0 : Int), PV.int .i64 (0 : Int), PV.str ([] : List UInt8)])), OV.flat (FV.val (PV.int .i64 (9 : Int)))], []))
  (ifB (a4 == (2 : Int))
  (some ([OV.flat (FV.val (PV.agg [PV.int .i64 (0 : Int), PV.int .i64 (0 : Int), PV.str ([] : List UInt8)])), OV.flat (FV.val (PV.int .i64 (9 : Int)))], []))
  (callB (rec 39 [OV.flat (FV.val (PV.agg [PV.int .i64 a1, PV.int .i64 a2, PV.str a3]))]) fun r1 => needB (okOs Go.Proofs.Try.prog [4] [] (Prod.fst r1)) <|
  callB (rec 39 [OV.flat (FV.val (PV.agg [PV.int .i64 a4, PV.int .i64 a5, PV.str a6]))]) fun r2 => needB (okOs Go.Proofs.Try.prog [4] [] (Prod.fst r2)) <|
  ifB (a1 == (0 : Int))
  (ifB (a0 == (1 : Int))
  (ifB (!(PV.toB (FV.pv (OV.fv (List.headD (Prod.fst r1) (OV.flat FV.gone))))))
  (ifB (!(PV.toB (FV.pv (OV.fv (List.headD (Prod.fst r2) (OV.flat FV.gone))))))
  (some ([OV.flat (FV.val (PV.agg [PV.int .i64 (0 : Int), PV.int .i64 (0 : Int), PV.str ([] : List UInt8)])), OV.flat (FV.val (PV.int .i64 (0 : Int)))], []))
  (ifB (PV.toB (FV.pv (OV.fv (List.headD (Prod.fst r1) (OV.flat FV.gone)))))
  (callB (rec 44 [OV.flat (FV.val (PV.bool true))]) fun r3 => needB (okOs Go.Proofs.Try.prog [23] [] (Prod.fst r3)) <|
  some ([OV.flat (FV.val (PV.agg [PV.int .i64 (PV.toI (List.headD (PV.cells (FV.pv (OV.fv (List.headD (Prod.fst r3) (OV.flat FV.gone))))) PV.undef)), PV.int .i64 (PV.toI (List.headD (List.tail (PV.cells (FV.pv (OV.fv (List.headD (Prod.fst r3) (OV.flat FV.gone)))))) PV.undef)), PV.str (PV.toS (List.headD (List.tail (List.tail (PV.cells (FV.pv (OV.fv (List.headD (Prod.fst r3) (OV.flat FV.gone))))))) PV.undef))])), OV.flat (FV.val (PV.int .i64 (0 : Int)))], []))
  (callB (rec 44 [OV.flat (FV.val (PV.bool (PV.toB (FV.pv (OV.fv (List.headD (Prod.fst r2) (OV.flat FV.gone)))))))]) fun r4 => needB (okOs Go.Proofs.Try.prog [23] [] (Prod.fst r4)) <|
  some ([OV.flat (FV.val (PV.agg [PV.int .i64 (PV.toI (List.headD (PV.cells (FV.pv (OV.fv (List.headD (Prod.fst r4) (OV.flat FV.gone))))) PV.undef)), PV.int .i64 (PV.toI (List.headD (List.tail (PV.cells (FV.pv (OV.fv (List.headD (Prod.fst r4) (OV.flat FV.gone)))))) PV.undef)), PV.str (PV.toS (List.headD (List.tail (List.tail (PV.cells (FV.pv (OV.fv (List.headD (Prod.fst r4) (OV.flat FV.gone))))))) PV.undef))])), OV.flat (FV.val (PV.int .i64 (0 : Int)))], []))))
  (ifB (PV.toB (FV.pv (OV.fv (List.headD (Prod.fst r1) (OV.flat FV.gone)))))
  (callB (rec 44 [OV.flat (FV.val (PV.bool true))]) fun r5 => needB (okOs Go.Proofs.Try.prog [23] [] (Prod.fst r5)) <|
  some ([OV.flat (FV.val (PV.agg [PV.int .i64 (PV.toI (List.headD (PV.cells (FV.pv (OV.fv (List.headD (Prod.fst r5) (OV.flat FV.gone))))) PV.undef)), PV.int .i64 (PV.toI (List.headD (List.tail (PV.cells (FV.pv (OV.fv (List.headD (Prod.fst r5) (OV.flat FV.gone)))))) PV.undef)), PV.str (PV.toS (List.headD (List.tail (List.tail (PV.cells (FV.pv (OV.fv (List.headD (Prod.fst r5) (OV.flat FV.gone))))))) PV.undef))])), OV.flat (FV.val (PV.int .i64 (0 : Int)))], []))
  (callB (rec 44 [OV.flat (FV.val (PV.bool (PV.toB (FV.pv (OV.fv (List.headD (Prod.fst r2) (OV.flat FV.gone)))))))]) fun r6 => needB (okOs Go.Proofs.Try.prog [23] [] (Prod.fst r6)) <|
  some ([OV.flat (FV.val (PV.agg [PV.int .i64 (PV.toI (List.headD (PV.cells (FV.pv (OV.fv (List.headD (Prod.fst r6) (OV.flat FV.gone))))) PV.undef)), PV.int .i64 (PV.toI (List.headD (List.tail (PV.cells (FV.pv (OV.fv (List.headD (Prod.fst r6) (OV.flat FV.gone)))))) PV.undef)), PV.str (PV.toS (List.headD (List.tail (List.tail (PV.cells (FV.pv (OV.fv (List.headD (Prod.fst r6) (OV.flat FV.gone))))))) PV.undef))])), OV.flat (FV.val (PV.int .i64 (0 : Int)))], []))))
  (ifB (a1 == (1 : Int))
  (ifB (!(PV.toB (FV.pv (OV.fv (List.headD (Prod.fst r1) (OV.flat FV.gone))))))
  (callB (rec 44 [OV.flat (FV.val (PV.bool false))]) fun r7 => needB (okOs Go.Proofs.Try.prog [23] [] (Prod.fst r7)) <|
  some ([OV.flat (FV.val (PV.agg [PV.int .i64 (PV.toI (List.headD (PV.cells (FV.pv (OV.fv (List.headD (Prod.fst r7) (OV.flat FV.gone))))) PV.undef)), PV.int .i64 (PV.toI (List.headD (List.tail (PV.cells (FV.pv (OV.fv (List.headD (Prod.fst r7) (OV.flat FV.gone)))))) PV.undef)), PV.str (PV.toS (List.headD (List.tail (List.tail (PV.cells (FV.pv (OV.fv (List.headD (Prod.fst r7) (OV.flat FV.gone))))))) PV.undef))])), OV.flat (FV.val (PV.int .i64 (0 : Int)))], []))
  (ifB (a4 == (1 : Int))
  (ifB (!(!(PV.toB (FV.pv (OV.fv (List.headD (Prod.fst r2) (OV.flat FV.gone)))))))
  (some ([OV.flat (FV.val (PV.agg [PV.int .i64 (0 : Int), PV.int .i64 (0 : Int), PV.str ([] : List UInt8)])), OV.flat (FV.val (PV.int .i64 (0 : Int)))], []))
  (callB (rec 44 [OV.flat (FV.val (PV.bool (!(!(PV.toB (FV.pv (OV.fv (List.headD (Prod.fst r2) (OV.flat FV.gone)))))))))]) fun r8 => needB (okOs Go.Proofs.Try.prog [23] [] (Prod.fst r8)) <|
  some ([OV.flat (FV.val (PV.agg [PV.int .i64 (PV.toI (List.headD (PV.cells (FV.pv (OV.fv (List.headD (Prod.fst r8) (OV.flat FV.gone))))) PV.undef)), PV.int .i64 (PV.toI (List.headD (List.tail (PV.cells (FV.pv (OV.fv (List.headD (Prod.fst r8) (OV.flat FV.gone)))))) PV.undef)), PV.str (PV.toS (List.headD (List.tail (List.tail (PV.cells (FV.pv (OV.fv (List.headD (Prod.fst r8) (OV.flat FV.gone))))))) PV.undef))])), OV.flat (FV.val (PV.int .i64 (0 : Int)))], [])))
  (some ([OV.flat (FV.val (PV.agg [PV.int .i64 (0 : Int), PV.int .i64 (0 : Int), PV.str ([] : List UInt8)])), OV.flat (FV.val (PV.int .i64 (0 : Int)))], []))))
  (ifB (a4 == (1 : Int))
  (ifB (!(!(PV.toB (FV.pv (OV.fv (List.headD (Prod.fst r2) (OV.flat FV.gone)))))))
  (some ([OV.flat (FV.val (PV.agg [PV.int .i64 (0 : Int), PV.int .i64 (0 : Int), PV.str ([] : List UInt8)])), OV.flat (FV.val (PV.int .i64 (0 : Int)))], []))
  (callB (rec 44 [OV.flat (FV.val (PV.bool (!(!(PV.toB (FV.pv (OV.fv (List.headD (Prod.fst r2) (OV.flat FV.gone)))))))))]) fun r9 => needB (okOs Go.Proofs.Try.prog [23] [] (Prod.fst r9)) <|
  some ([OV.flat (FV.val (PV.agg [PV.int .i64 (PV.toI (List.headD (PV.cells (FV.pv (OV.fv (List.headD (Prod.fst r9) (OV.flat FV.gone))))) PV.undef)), PV.int .i64 (PV.toI (List.headD (List.tail (PV.cells (FV.pv (OV.fv (List.headD (Prod.fst r9) (OV.flat FV.gone)))))) PV.undef)), PV.str (PV.toS (List.headD (List.tail (List.tail (PV.cells (FV.pv (OV.fv (List.headD (Prod.fst r9) (OV.flat FV.gone))))))) PV.undef))])), OV.flat (FV.val (PV.int .i64 (0 : Int)))], [])))
  (some ([OV.flat (FV.val (PV.agg [PV.int .i64 (0 : Int), PV.int .i64 (0 : Int), PV.str ([] : List UInt8)])), OV.flat (FV.val (PV.int .i64 (0 : Int)))], [])))))
  (ifB (a0 == (1 : Int))
  (ifB (!(PV.toB (FV.pv (OV.fv (List.headD (Prod.fst r1) (OV.flat FV.gone))))))
  (ifB (!(PV.toB (FV.pv (OV.fv (List.headD (Prod.fst r2) (OV.flat FV.gone))))))
  (ifB (a4 == (0 : Int))
  (some ([OV.flat (FV.val (PV.agg [PV.int .i64 (0 : Int), PV.int .i64 (0 : Int), PV.str ([] : List UInt8)])), OV.flat (FV.val (PV.int .i64 (0 : Int)))], []))
  (ifB (PV.toB (FV.pv (OV.fv (List.headD (Prod.fst r1) (OV.flat FV.gone)))))
  (callB (rec 44 [OV.flat (FV.val (PV.bool true))]) fun r10 => needB (okOs Go.Proofs.Try.prog [23] [] (Prod.fst r10)) <|
  some ([OV.flat (FV.val (PV.agg [PV.int .i64 (PV.toI (List.headD (PV.cells (FV.pv (OV.fv (List.headD (Prod.fst r10) (OV.flat FV.gone))))) PV.undef)), PV.int .i64 (PV.toI (List.headD (List.tail (PV.cells (FV.pv (OV.fv (List.headD (Prod.fst r10) (OV.flat FV.gone)))))) PV.undef)), PV.str (PV.toS (List.headD (List.tail (List.tail (PV.cells (FV.pv (OV.fv (List.headD (Prod.fst r10) (OV.flat FV.gone))))))) PV.undef))])), OV.flat (FV.val (PV.int .i64 (0 : Int)))], []))
  (callB (rec 44 [OV.flat (FV.val (PV.bool (PV.toB (FV.pv (OV.fv (List.headD (Prod.fst r2) (OV.flat FV.gone)))))))]) fun r11 => needB (okOs Go.Proofs.Try.prog [23] [] (Prod.fst r11)) <|
  some ([OV.flat (FV.val (PV.agg [PV.int .i64 (PV.toI (List.headD (PV.cells (FV.pv (OV.fv (List.headD (Prod.fst r11) (OV.flat FV.gone))))) PV.undef)), PV.int .i64 (PV.toI (List.headD (List.tail (PV.cells (FV.pv (OV.fv (List.headD (Prod.fst r11) (OV.flat FV.gone)))))) PV.undef)), PV.str (PV.toS (List.headD (List.tail (List.tail (PV.cells (FV.pv (OV.fv (List.headD (Prod.fst r11) (OV.flat FV.gone))))))) PV.undef))])), OV.flat (FV.val (PV.int .i64 (0 : Int)))], []))))
  (ifB (PV.toB (FV.pv (OV.fv (List.headD (Prod.fst r1) (OV.flat FV.gone)))))
  (callB (rec 44 [OV.flat (FV.val (PV.bool true))]) fun r12 => needB (okOs Go.Proofs.Try.prog [23] [] (Prod.fst r12)) <|
  some ([OV.flat (FV.val (PV.agg [PV.int .i64 (PV.toI (List.headD (PV.cells (FV.pv (OV.fv (List.headD (Prod.fst r12) (OV.flat FV.gone))))) PV.undef)), PV.int .i64 (PV.toI (List.headD (List.tail (PV.cells (FV.pv (OV.fv (List.headD (Prod.fst r12) (OV.flat FV.gone)))))) PV.undef)), PV.str (PV.toS (List.headD (List.tail (List.tail (PV.cells (FV.pv (OV.fv (List.headD (Prod.fst r12) (OV.flat FV.gone))))))) PV.undef))])), OV.flat (FV.val (PV.int .i64 (0 : Int)))], []))
  (callB (rec 44 [OV.flat (FV.val (PV.bool (PV.toB (FV.pv (OV.fv (List.headD (Prod.fst r2) (OV.flat FV.gone)))))))]) fun r13 => needB (okOs Go.Proofs.Try.prog [23] [] (Prod.fst r13)) <|
  some ([OV.flat (FV.val (PV.agg [PV.int .i64 (PV.toI (List.headD (PV.cells (FV.pv (OV.fv (List.headD (Prod.fst r13) (OV.flat FV.gone))))) PV.undef)), PV.int .i64 (PV.toI (List.headD (List.tail (PV.cells (FV.pv (OV.fv (List.headD (Prod.fst r13) (OV.flat FV.gone)))))) PV.undef)), PV.str (PV.toS (List.headD (List.tail (List.tail (PV.cells (FV.pv (OV.fv (List.headD (Prod.fst r13) (OV.flat FV.gone))))))) PV.undef))])), OV.flat (FV.val (PV.int .i64 (0 : Int)))], []))))
  (ifB (PV.toB (FV.pv (OV.fv (List.headD (Prod.fst r1) (OV.flat FV.gone)))))
  (callB (rec 44 [OV.flat (FV.val (PV.bool true))]) fun r14 => needB (okOs Go.Proofs.Try.prog [23] [] (Prod.fst r14)) <|
  some ([OV.flat (FV.val (PV.agg [PV.int .i64 (PV.toI (List.headD (PV.cells (FV.pv (OV.fv (List.headD (Prod.fst r14) (OV.flat FV.gone))))) PV.undef)), PV.int .i64 (PV.toI (List.headD (List.tail (PV.cells (FV.pv (OV.fv (List.headD (Prod.fst r14) (OV.flat FV.gone)))))) PV.undef)), PV.str (PV.toS (List.headD (List.tail (List.tail (PV.cells (FV.pv (OV.fv (List.headD (Prod.fst r14) (OV.flat FV.gone))))))) PV.undef))])), OV.flat (FV.val (PV.int .i64 (0 : Int)))], []))
  (callB (rec 44 [OV.flat (FV.val (PV.bool (PV.toB (FV.pv (OV.fv (List.headD (Prod.fst r2) (OV.flat FV.gone)))))))]) fun r15 => needB (okOs Go.Proofs.Try.prog [23] [] (Prod.fst r15)) <|
  some ([OV.flat (FV.val (PV.agg [PV.int .i64 (PV.toI (List.headD (PV.cells (FV.pv (OV.fv (List.headD (Prod.fst r15) (OV.flat FV.gone))))) PV.undef)), PV.int .i64 (PV.toI (List.headD (List.tail (PV.cells (FV.pv (OV.fv (List.headD (Prod.fst r15) (OV.flat FV.gone)))))) PV.undef)), PV.str (PV.toS (List.headD (List.tail (List.tail (PV.cells (FV.pv (OV.fv (List.headD (Prod.fst r15) (OV.flat FV.gone))))))) PV.undef))])), OV.flat (FV.val (PV.int .i64 (0 : Int)))], []))))
  (ifB (a1 == (1 : Int))
  (ifB (!(PV.toB (FV.pv (OV.fv (List.headD (Prod.fst r1) (OV.flat FV.gone))))))
  (callB (rec 44 [OV.flat (FV.val (PV.bool false))]) fun r16 => needB (okOs Go.Proofs.Try.prog [23] [] (Prod.fst r16)) <|
  some ([OV.flat (FV.val (PV.agg [PV.int .i64 (PV.toI (List.headD (PV.cells (FV.pv (OV.fv (List.headD (Prod.fst r16) (OV.flat FV.gone))))) PV.undef)), PV.int .i64 (PV.toI (List.headD (List.tail (PV.cells (FV.pv (OV.fv (List.headD (Prod.fst r16) (OV.flat FV.gone)))))) PV.undef)), PV.str (PV.toS (List.headD (List.tail (List.tail (PV.cells (FV.pv (OV.fv (List.headD (Prod.fst r16) (OV.flat FV.gone))))))) PV.undef))])), OV.flat (FV.val (PV.int .i64 (0 : Int)))], []))
  (ifB (a4 == (1 : Int))
  (ifB (!(!(PV.toB (FV.pv (OV.fv (List.headD (Prod.fst r2) (OV.flat FV.gone)))))))
  (ifB (a4 == (0 : Int))
  (some ([OV.flat (FV.val (PV.agg [PV.int .i64 (0 : Int), PV.int .i64 (0 : Int), PV.str ([] : List UInt8)])), OV.flat (FV.val (PV.int .i64 (0 : Int)))], []))
  (callB (rec 44 [OV.flat (FV.val (PV.bool (!(!(PV.toB (FV.pv (OV.fv (List.headD (Prod.fst r2) (OV.flat FV.gone)))))))))]) fun r17 => needB (okOs Go.Proofs.Try.prog [23] [] (Prod.fst r17)) <|
  some ([OV.flat (FV.val (PV.agg [PV.int .i64 (PV.toI (List.headD (PV.cells (FV.pv (OV.fv (List.headD (Prod.fst r17) (OV.flat FV.gone))))) PV.undef)), PV.int .i64 (PV.toI (List.headD (List.tail (PV.cells (FV.pv (OV.fv (List.headD (Prod.fst r17) (OV.flat FV.gone)))))) PV.undef)), PV.str (PV.toS (List.headD (List.tail (List.tail (PV.cells (FV.pv (OV.fv (List.headD (Prod.fst r17) (OV.flat FV.gone))))))) PV.undef))])), OV.flat (FV.val (PV.int .i64 (0 : Int)))], [])))
  (callB (rec 44 [OV.flat (FV.val (PV.bool (!(!(PV.toB (FV.pv (OV.fv (List.headD (Prod.fst r2) (OV.flat FV.gone)))))))))]) fun r18 => needB (okOs Go.Proofs.Try.prog [23] [] (Prod.fst r18)) <|
  some ([OV.flat (FV.val (PV.agg [PV.int .i64 (PV.toI (List.headD (PV.cells (FV.pv (OV.fv (List.headD (Prod.fst r18) (OV.flat FV.gone))))) PV.undef)), PV.int .i64 (PV.toI (List.headD (List.tail (PV.cells (FV.pv (OV.fv (List.headD (Prod.fst r18) (OV.flat FV.gone)))))) PV.undef)), PV.str (PV.toS (List.headD (List.tail (List.tail (PV.cells (FV.pv (OV.fv (List.headD (Prod.fst r18) (OV.flat FV.gone))))))) PV.undef))])), OV.flat (FV.val (PV.int .i64 (0 : Int)))], [])))
  (ifB (a4 == (0 : Int))
  (some ([OV.flat (FV.val (PV.agg [PV.int .i64 (0 : Int), PV.int .i64 (0 : Int), PV.str ([] : List UInt8)])), OV.flat (FV.val (PV.int .i64 (0 : Int)))], []))
  (callB (rec 44 [OV.flat (FV.val (PV.bool true))]) fun r19 => needB (okOs Go.Proofs.Try.prog [23] [] (Prod.fst r19)) <|
  some ([OV.flat (FV.val (PV.agg [PV.int .i64 (PV.toI (List.headD (PV.cells (FV.pv (OV.fv (List.headD (Prod.fst r19) (OV.flat FV.gone))))) PV.undef)), PV.int .i64 (PV.toI (List.headD (List.tail (PV.cells (FV.pv (OV.fv (List.headD (Prod.fst r19) (OV.flat FV.gone)))))) PV.undef)), PV.str (PV.toS (List.headD (List.tail (List.tail (PV.cells (FV.pv (OV.fv (List.headD (Prod.fst r19) (OV.flat FV.gone))))))) PV.undef))])), OV.flat (FV.val (PV.int .i64 (0 : Int)))], [])))))
  (ifB (a4 == (1 : Int))
  (ifB (!(!(PV.toB (FV.pv (OV.fv (List.headD (Prod.fst r2) (OV.flat FV.gone)))))))
  (ifB (a4 == (0 : Int))
  (some ([OV.flat (FV.val (PV.agg [PV.int .i64 (0 : Int), PV.int .i64 (0 : Int), PV.str ([] : List UInt8)])), OV.flat (FV.val (PV.int .i64 (0 : Int)))], []))
  (callB (rec 44 [OV.flat (FV.val (PV.bool (!(!(PV.toB (FV.pv (OV.fv (List.headD (Prod.fst r2) (OV.flat FV.gone)))))))))]) fun r20 => needB (okOs Go.Proofs.Try.prog [23] [] (Prod.fst r20)) <|
  some ([OV.flat (FV.val (PV.agg [PV.int .i64 (PV.toI (List.headD (PV.cells (FV.pv (OV.fv (List.headD (Prod.fst r20) (OV.flat FV.gone))))) PV.undef)), PV.int .i64 (PV.toI (List.headD (List.tail (PV.cells (FV.pv (OV.fv (List.headD (Prod.fst r20) (OV.flat FV.gone)))))) PV.undef)), PV.str (PV.toS (List.headD (List.tail (List.tail (PV.cells (FV.pv (OV.fv (List.headD (Prod.fst r20) (OV.flat FV.gone))))))) PV.undef))])), OV.flat (FV.val (PV.int .i64 (0 : Int)))], [])))
  (callB (rec 44 [OV.flat (FV.val (PV.bool (!(!(PV.toB (FV.pv (OV.fv (List.headD (Prod.fst r2) (OV.flat FV.gone)))))))))]) fun r21 => needB (okOs Go.Proofs.Try.prog [23] [] (Prod.fst r21)) <|
  some ([OV.flat (FV.val (PV.agg [PV.int .i64 (PV.toI (List.headD (PV.cells (FV.pv (OV.fv (List.headD (Prod.fst r21) (OV.flat FV.gone))))) PV.undef)), PV.int .i64 (PV.toI (List.headD (List.tail (PV.cells (FV.pv (OV.fv (List.headD (Prod.fst r21) (OV.flat FV.gone)))))) PV.undef)), PV.str (PV.toS (List.headD (List.tail (List.tail (PV.cells (FV.pv (OV.fv (List.headD (Prod.fst r21) (OV.flat FV.gone))))))) PV.undef))])), OV.flat (FV.val (PV.int .i64 (0 : Int)))], [])))
  (ifB (a4 == (0 : Int))
  (some ([OV.flat (FV.val (PV.agg [PV.int .i64 (0 : Int), PV.int .i64 (0 : Int), PV.str ([] : List UInt8)])), OV.flat (FV.val (PV.int .i64 (0 : Int)))], []))
  (callB (rec 44 [OV.flat (FV.val (PV.bool true))]) fun r22 => needB (okOs Go.Proofs.Try.prog [23] [] (Prod.fst r22)) <|
  some ([OV.flat (FV.val (PV.agg [PV.int .i64 (PV.toI (List.headD (PV.cells (FV.pv (OV.fv (List.headD (Prod.fst r22) (OV.flat FV.gone))))) PV.undef)), PV.int .i64 (PV.toI (List.headD (List.tail (PV.cells (FV.pv (OV.fv (List.headD (Prod.fst r22) (OV.flat FV.gone)))))) PV.undef)), PV.str (PV.toS (List.headD (List.tail (List.tail (PV.cells (FV.pv (OV.fv (List.headD (Prod.fst r22) (OV.flat FV.gone))))))) PV.undef))])), OV.flat (FV.val (PV.int .i64 (0 : Int)))], []))))))))

theorem f28_vestryref13_both_eq (rec : Rec) (n : Nat) (a0 : Int) (a1 : Int) (a2 : Int) (a3 : List UInt8) (a4 : Int) (a5 : Int) (a6 : List UInt8) : callBody C rec n 28 [OV.flat (FV.val (PV.int .i64 a0)), OV.flat (FV.val (PV.agg [PV.int .i64 a1, PV.int .i64 a2, PV.str a3])), OV.flat (FV.val (PV.agg [PV.int .i64 a4, PV.int .i64 a5, PV.str a6]))] = f28_vestryref13_both rec n a0 a1 a2 a3 a4 a5 a6 := by kernel_rfl

noncomputable def f29_vestryref13_test (rec : Rec) (n : Nat) (a0 : Int) (a1 : Int) (a2 : Int) (a3 : List UInt8) (a4 : Int) (a5 : Int) (a6 : List UInt8) : Option (List OV × List OV) :=
  callB (rec 45 [OV.flat (FV.val (PV.agg [PV.int .i64 a1, PV.int .i64 a2, PV.str a3])), OV.flat (FV.val (PV.agg [PV.int .i64 a4, PV.int .i64 a5, PV.str a6]))]) fun r1 => needB (okOs Go.Proofs.Try.prog [3] [] (Prod.fst r1)) <|
  ifB (a0 == (3 : Int))
  (callB (rec 44 [OV.flat (FV.val (PV.bool (PV.toI (FV.pv (OV.fv (List.headD (Prod.fst r1) (OV.flat FV.gone)))) == (0 : Int))))]) fun r2 => needB (okOs Go.Proofs.Try.prog [23] [] (Prod.fst r2)) <|
  some ([OV.flat (FV.val (PV.agg [PV.int .i64 (PV.toI (List.headD (PV.cells (FV.pv (OV.fv (List.headD (Prod.fst r2) (OV.flat FV.gone))))) PV.undef)), PV.int .i64 (PV.toI (List.headD (List.tail (PV.cells (FV.pv (OV.fv (List.headD (Prod.fst r2) (OV.flat FV.gone)))))) PV.undef)), PV.str (PV.toS (List.headD (List.tail (List.tail (PV.cells (FV.pv (OV.fv (List.headD (Prod.fst r2) (OV.flat FV.gone))))))) PV.undef))]))], []))
  (ifB (a0 == (4 : Int))
  (callB (rec 44 [OV.flat (FV.val (PV.bool (PV.toI (FV.pv (OV.fv (List.headD (Prod.fst r1) (OV.flat FV.gone)))) != (0 : Int))))]) fun r3 => needB (okOs Go.Proofs.Try.prog [23] [] (Prod.fst r3)) <|
  some ([OV.flat (FV.val (PV.agg [PV.int .i64 (PV.toI (List.headD (PV.cells (FV.pv (OV.fv (List.headD (Prod.fst r3) (OV.flat FV.gone))))) PV.undef)), PV.int .i64 (PV.toI (List.headD (List.tail (PV.cells (FV.pv (OV.fv (List.headD (Prod.fst r3) (OV.flat FV.gone)))))) PV.undef)), PV.str (PV.toS (List.headD (List.tail (List.tail (PV.cells (FV.pv (OV.fv (List.headD (Prod.fst r3) (OV.flat FV.gone))))))) PV.undef))]))], []))
  (ifB (a0 == (5 : Int))
  (callB (rec 44 [OV.flat (FV.val (PV.bool (decide (PV.toI (FV.pv (OV.fv (List.headD (Prod.fst r1) (OV.flat FV.gone)))) < (0 : Int)))))]) fun r4 => needB (okOs Go.Proofs.Try.prog [23] [] (Prod.fst r4)) <|
  some ([OV.flat (FV.val (PV.agg [PV.int .i64 (PV.toI (List.headD (PV.cells (FV.pv (OV.fv (List.headD (Prod.fst r4) (OV.flat FV.gone))))) PV.undef)), PV.int .i64 (PV.toI (List.headD (List.tail (PV.cells (FV.pv (OV.fv (List.headD (Prod.fst r4) (OV.flat FV.gone)))))) PV.undef)), PV.str (PV.toS (List.headD (List.tail (List.tail (PV.cells (FV.pv (OV.fv (List.headD (Prod.fst r4) (OV.flat FV.gone))))))) PV.undef))]))], []))
  (ifB (a0 == (6 : Int))
  (callB (rec 44 [OV.flat (FV.val (PV.bool (decide (PV.toI (FV.pv (OV.fv (List.headD (Prod.fst r1) (OV.flat FV.gone)))) ≤ (0 : Int)))))]) fun r5 => needB (okOs Go.Proofs.Try.prog [23] [] (Prod.fst r5)) <|
  some ([OV.flat (FV.val (PV.agg [PV.int .i64 (PV.toI (List.headD (PV.cells (FV.pv (OV.fv (List.headD (Prod.fst r5) (OV.flat FV.gone))))) PV.undef)), PV.int .i64 (PV.toI (List.headD (List.tail (PV.cells (FV.pv (OV.fv (List.headD (Prod.fst r5) (OV.flat FV.gone)))))) PV.undef)), PV.str (PV.toS (List.headD (List.tail (List.tail (PV.cells (FV.pv (OV.fv (List.headD (Prod.fst r5) (OV.flat FV.gone))))))) PV.undef))]))], []))
  (ifB (a0 == (7 : Int))
  (callB (rec 44 [OV.flat (FV.val (PV.bool (decide (PV.toI (FV.pv (OV.fv (List.headD (Prod.fst r1) (OV.flat FV.gone)))) > (0 : Int)))))]) fun r6 => needB (okOs Go.Proofs.Try.prog [23] [] (Prod.fst r6)) <|
  some ([OV.flat (FV.val (PV.agg [PV.int .i64 (PV.toI (List.headD (PV.cells (FV.pv (OV.fv (List.headD (Prod.fst r6) (OV.flat FV.gone))))) PV.undef)), PV.int .i64 (PV.toI (List.headD (List.tail (PV.cells (FV.pv (OV.fv (List.headD (Prod.fst r6) (OV.flat FV.gone)))))) PV.undef)), PV.str (PV.toS (List.headD (List.tail (List.tail (PV.cells (FV.pv (OV.fv (List.headD (Prod.fst r6) (OV.flat FV.gone))))))) PV.undef))]))], []))
  (callB (rec 44 [OV.flat (FV.val (PV.bool (decide (PV.toI (FV.pv (OV.fv (List.headD (Prod.fst r1) (OV.flat FV.gone)))) ≥ (0 : Int)))))]) fun r7 => needB (okOs Go.Proofs.Try.prog [23] [] (Prod.fst r7)) <|
  some ([OV.flat (FV.val (PV.agg [PV.int .i64 (PV.toI (List.headD (PV.cells (FV.pv (OV.fv (List.headD (Prod.fst r7) (OV.flat FV.gone))))) PV.undef)), PV.int .i64 (PV.toI (List.headD (List.tail (PV.cells (FV.pv (OV.fv (List.headD (Prod.fst r7) (OV.flat FV.gone)))))) PV.undef)), PV.str (PV.toS (List.headD (List.tail (List.tail (PV.cells (FV.pv (OV.fv (List.headD (Prod.fst r7) (OV.flat FV.gone))))))) PV.undef))]))], []))))))

theorem f29_vestryref13_test_eq (rec : Rec) (n : Nat) (a0 : Int) (a1 : Int) (a2 : Int) (a3 : List UInt8) (a4 : Int) (a5 : Int) (a6 : List UInt8) : callBody C rec n 29 [OV.flat (FV.val (PV.int .i64 a0)), OV.flat (FV.val (PV.agg [PV.int .i64 a1, PV.int .i64 a2, PV.str a3])), OV.flat (FV.val (PV.agg [PV.int .i64 a4, PV.int .i64 a5, PV.str a6]))] = f29_vestryref13_test rec n a0 a1 a2 a3 a4 a5 a6 := by kernel_rfl

noncomputable def f30_vestryref13_sums (rec : Rec) (n : Nat) (a0 : Int) (a1 : Int) (a2 : Int) : Option (List OV × List OV) :=
  ifB (a0 == (9 : Int))
  (ifB (decide (a2 > (0 : Int)))
  (ifB (decide (a1 > IntKind.wrap .i64 ((9223372036854775807 : Int) - a2)))
  (some ([OV.flat (FV.val (PV.int .i64 (0 : Int))), OV.flat (FV.val (PV.int .i64 (7 : Int)))], []))
  (ifB (decide (a2 < (0 : Int)))
  (ifB (decide (a1 < IntKind.wrap .i64 ((-9223372036854775808 : Int) - a2)))
  (some ([OV.flat (FV.val (PV.int .i64 (0 : Int))), OV.flat (FV.val (PV.int .i64 (7 : Int)))], []))
  (some ([OV.flat (FV.val (PV.int .i64 (IntKind.wrap .i64 (a1 + a2)))), OV.flat (FV.val (PV.int .i64 (0 : Int)))], [])))
  (some ([OV.flat (FV.val (PV.int .i64 (IntKind.wrap .i64 (a1 + a2)))), OV.flat (FV.val (PV.int .i64 (0 : Int)))], []))))
  (ifB (decide (a2 < (0 : Int)))
  (ifB (decide (a1 < IntKind.wrap .i64 ((-9223372036854775808 : Int) - a2)))
  (some ([OV.flat (FV.val (PV.int .i64 (0 : Int))), OV.flat (FV.val (PV.int .i64 (7 : Int)))], []))
  (some ([OV.flat (FV.val (PV.int .i64 (IntKind.wrap .i64 (a1 + a2)))), OV.flat (FV.val (PV.int .i64 (0 : Int)))], [])))
  (some ([OV.flat (FV.val (PV.int .i64 (IntKind.wrap .i64 (a1 + a2)))), OV.flat (FV.val (PV.int .i64 (0 : Int)))], []))))
  (ifB (a0 == (10 : Int))
  (ifB (decide (a2 > (0 : Int)))
  (ifB (decide (a1 < IntKind.wrap .i64 ((-9223372036854775808 : Int) + a2)))
  (some ([OV.flat (FV.val (PV.int .i64 (0 : Int))), OV.flat (FV.val (PV.int .i64 (7 : Int)))], []))
  (ifB (decide (a2 < (0 : Int)))
  (ifB (decide (a1 > IntKind.wrap .i64 ((9223372036854775807 : Int) + a2)))
  (some ([OV.flat (FV.val (PV.int .i64 (0 : Int))), OV.flat (FV.val (PV.int .i64 (7 : Int)))], []))
  (some ([OV.flat (FV.val (PV.int .i64 (IntKind.wrap .i64 (a1 - a2)))), OV.flat (FV.val (PV.int .i64 (0 : Int)))], [])))
  (some ([OV.flat (FV.val (PV.int .i64 (IntKind.wrap .i64 (a1 - a2)))), OV.flat (FV.val (PV.int .i64 (0 : Int)))], []))))
  (ifB (decide (a2 < (0 : Int)))
  (ifB (decide (a1 > IntKind.wrap .i64 ((9223372036854775807 : Int) + a2)))
  (some ([OV.flat (FV.val (PV.int .i64 (0 : Int))), OV.flat (FV.val (PV.int .i64 (7 : Int)))], []))
  (some ([OV.flat (FV.val (PV.int .i64 (IntKind.wrap .i64 (a1 - a2)))), OV.flat (FV.val (PV.int .i64 (0 : Int)))], [])))
  (some ([OV.flat (FV.val (PV.int .i64 (IntKind.wrap .i64 (a1 - a2)))), OV.flat (FV.val (PV.int .i64 (0 : Int)))], []))))
  (ifB (a0 == (11 : Int))
  (callB (rec 46 [OV.flat (FV.val (PV.int .i64 a1)), OV.flat (FV.val (PV.int .i64 a2))]) fun r1 => needB (okOs Go.Proofs.Try.prog [3, 4] [] (Prod.fst r1)) <|
  ifB (!(PV.toB (FV.pv (OV.fv (List.headD (List.tail (Prod.fst r1)) (OV.flat FV.gone))))))
  (some ([OV.flat (FV.val (PV.int .i64 (0 : Int))), OV.flat (FV.val (PV.int .i64 (7 : Int)))], []))
  (some ([OV.flat (FV.val (PV.int .i64 (PV.toI (FV.pv (OV.fv (List.headD (Prod.fst r1) (OV.flat FV.gone))))))), OV.flat (FV.val (PV.int .i64 (0 : Int)))], [])))
  (ifB (a2 == (0 : Int))
  (some ([OV.flat (FV.val (PV.int .i64 (0 : Int))), OV.flat (FV.val (PV.int .i64 (8 : Int)))], []))
  (ifB (a2 == (-1 : Int))
  (ifB (a0 == (13 : Int))
  (some ([OV.flat (FV.val (PV.int .i64 (0 : Int))), OV.flat (FV.val (PV.int .i64 (0 : Int)))], []))
  (ifB (a1 == (-9223372036854775808 : Int))
  (some ([OV.flat (FV.val (PV.int .i64 (0 : Int))), OV.flat (FV.val (PV.int .i64 (7 : Int)))], []))
  (some ([OV.flat (FV.val (PV.int .i64 (IntKind.wrap .i64 ((0 : Int) - a1)))), OV.flat (FV.val (PV.int .i64 (0 : Int)))], []))))
  (ifB (a0 == (12 : Int))
  (needB (a2 != 0) <|
  some ([OV.flat (FV.val (PV.int .i64 (IntKind.wrap .i64 (Int.tdiv a1 a2)))), OV.flat (FV.val (PV.int .i64 (0 : Int)))], []))
  (needB (a2 != 0) <|
  some ([OV.flat (FV.val (PV.int .i64 (Int.tmod a1 a2))), OV.flat (FV.val (PV.int .i64 (0 : Int)))], [])))))))

theorem f30_vestryref13_sums_eq (rec : Rec) (n : Nat) (a0 : Int) (a1 : Int) (a2 : Int) : callBody C rec n 30 [OV.flat (FV.val (PV.int .i64 a0)), OV.flat (FV.val (PV.int .i64 a1)), OV.flat (FV.val (PV.int .i64 a2))] = f30_vestryref13_sums rec n a0 a1 a2 := by kernel_rfl

noncomputable def f31_vestryref13_Num (rec : Rec) (n : Nat) (a0 : Int) : Option (List OV × List OV) :=
  some ([OV.flat (FV.val (PV.agg [PV.int .i64 (1 : Int), PV.int .i64 a0, PV.str ([] : List UInt8)]))], [])

theorem f31_vestryref13_Num_eq (rec : Rec) (n : Nat) (a0 : Int) : callBody C rec n 31 [OV.flat (FV.val (PV.int .i64 a0))] = f31_vestryref13_Num rec n a0 := by kernel_rfl

noncomputable def f32_value_bare (rec : Rec) (n : Nat) (a0 : Int) (a1 : Int) (a2 : List UInt8) : Option (List OV × List OV) :=
  ifB (a0 == (0 : Int))
  (some ([OV.flat (FV.val (PV.agg [PV.int .i64 (0 : Int), PV.int .i64 (0 : Int), PV.str ([] : List UInt8)]))], []))
  (ifB (a0 == (1 : Int))
  (some ([OV.flat (FV.val (PV.agg [PV.int .i64 a0, PV.int .i64 a1, PV.str ([] : List UInt8)]))], []))
  (ifB (a0 == (2 : Int))
  (some ([OV.flat (FV.val (PV.agg [PV.int .i64 a0, PV.int .i64 (0 : Int), PV.str a2]))], []))
  (some ([OV.flat (FV.val (PV.agg [PV.int .i64 a0, PV.int .i64 a1, PV.str a2]))], []))))

theorem f32_value_bare_eq (rec : Rec) (n : Nat) (a0 : Int) (a1 : Int) (a2 : List UInt8) : callBody C rec n 32 [OV.flat (FV.val (PV.agg [PV.int .i64 a0, PV.int .i64 a1, PV.str a2]))] = f32_value_bare rec n a0 a1 a2 := by kernel_rfl

noncomputable def f33_eval_known (rec : Rec) (n : Nat) (a0 : Int) (a1 : Int) (a2 : List UInt8) : Option (List OV × List OV) :=
  callB (rec 11 [OV.flat (FV.val (PV.agg [PV.int .i64 a0, PV.int .i64 a1, PV.str a2]))]) fun r1 => needB (okOs Go.Proofs.Try.prog [25] [] (Prod.fst r1)) <|
  ifB (PV.toI (FV.pv (OV.fv (List.headD (Prod.fst r1) (OV.flat FV.gone)))) != (0 : Int))
  (some ([OV.flat (FV.val (PV.agg [PV.int .i64 (0 : Int), PV.int .i64 (0 : Int), PV.str ([] : List UInt8)])), OV.flat (FV.val (PV.int .i64 (4 : Int)))], []))
  (some ([OV.flat (FV.val (PV.agg [PV.int .i64 a0, PV.int .i64 a1, PV.str a2])), OV.flat (FV.val (PV.int .i64 (0 : Int)))], []))

theorem f33_eval_known_eq (rec : Rec) (n : Nat) (a0 : Int) (a1 : Int) (a2 : List UInt8) : callBody C rec n 33 [OV.flat (FV.val (PV.agg [PV.int .i64 a0, PV.int .i64 a1, PV.str a2]))] = f33_eval_known rec n a0 a1 a2 := by kernel_rfl

noncomputable def f34_eval_one (rec : Rec) (n : Nat) (a0 : Int) (a1 : Int) (a2 : Int) (a3 : List UInt8) : Option (List OV × List OV) :=
  ifB (a0 == (6 : Int))
  (callB (rec 42 [OV.flat (FV.val (PV.bool (a1 == (0 : Int))))]) fun r1 => needB (okOs Go.Proofs.Try.prog [23, 25] [] (Prod.fst r1)) <|
  some ([OV.flat (FV.val (PV.agg [PV.int .i64 (PV.toI (List.headD (PV.cells (FV.pv (OV.fv (List.headD (Prod.fst r1) (OV.flat FV.gone))))) PV.undef)), PV.int .i64 (PV.toI (List.headD (List.tail (PV.cells (FV.pv (OV.fv (List.headD (Prod.fst r1) (OV.flat FV.gone)))))) PV.undef)), PV.str (PV.toS (List.headD (List.tail (List.tail (PV.cells (FV.pv (OV.fv (List.headD (Prod.fst r1) (OV.flat FV.gone))))))) PV.undef))])), OV.flat (FV.val (PV.int .i64 (PV.toI (FV.pv (OV.fv (List.headD (List.tail (Prod.fst r1)) (OV.flat FV.gone)))))))], []))
  (ifB (a1 == (0 : Int))
  (some ([OV.flat (FV.val (PV.agg [PV.int .i64 a1, PV.int .i64 a2, PV.str a3])), OV.flat (FV.val (PV.int .i64 (0 : Int)))], []))
  (ifB (a1 == (2 : Int))
  (some ([OV.flat (FV.val (PV.agg [PV.int .i64 (0 : Int), PV.int .i64 (0 : Int), PV.str ([] : List UInt8)])), OV.flat (FV.val (PV.int .i64 (9 : Int)))], []))
  (ifB (a0 == (4 : Int))
  (callB (rec 42 [OV.flat (FV.val (PV.bool (a2 == (0 : Int))))]) fun r2 => needB (okOs Go.Proofs.Try.prog [23, 25] [] (Prod.fst r2)) <|
  some ([OV.flat (FV.val (PV.agg [PV.int .i64 (PV.toI (List.headD (PV.cells (FV.pv (OV.fv (List.headD (Prod.fst r2) (OV.flat FV.gone))))) PV.undef)), PV.int .i64 (PV.toI (List.headD (List.tail (PV.cells (FV.pv (OV.fv (List.headD (Prod.fst r2) (OV.flat FV.gone)))))) PV.undef)), PV.str (PV.toS (List.headD (List.tail (List.tail (PV.cells (FV.pv (OV.fv (List.headD (Prod.fst r2) (OV.flat FV.gone))))))) PV.undef))])), OV.flat (FV.val (PV.int .i64 (PV.toI (FV.pv (OV.fv (List.headD (List.tail (Prod.fst r2)) (OV.flat FV.gone)))))))], []))
  (ifB (a2 == (-9223372036854775808 : Int))
  (some ([OV.flat (FV.val (PV.agg [PV.int .i64 (0 : Int), PV.int .i64 (0 : Int), PV.str ([] : List UInt8)])), OV.flat (FV.val (PV.int .i64 (7 : Int)))], []))
  (callB (rec 25 [OV.flat (FV.val (PV.int .i64 (IntKind.wrap .i64 ((0 : Int) - a2)))), OV.flat (FV.val (PV.int .i64 (0 : Int)))]) fun r3 => needB (okOs Go.Proofs.Try.prog [23, 25] [] (Prod.fst r3)) <|
  some ([OV.flat (FV.val (PV.agg [PV.int .i64 (PV.toI (List.headD (PV.cells (FV.pv (OV.fv (List.headD (Prod.fst r3) (OV.flat FV.gone))))) PV.undef)), PV.int .i64 (PV.toI (List.headD (List.tail (PV.cells (FV.pv (OV.fv (List.headD (Prod.fst r3) (OV.flat FV.gone)))))) PV.undef)), PV.str (PV.toS (List.headD (List.tail (List.tail (PV.cells (FV.pv (OV.fv (List.headD (Prod.fst r3) (OV.flat FV.gone))))))) PV.undef))])), OV.flat (FV.val (PV.int .i64 (PV.toI (FV.pv (OV.fv (List.headD (List.tail (Prod.fst r3)) (OV.flat FV.gone)))))))], []))))))

theorem f34_eval_one_eq (rec : Rec) (n : Nat) (a0 : Int) (a1 : Int) (a2 : Int) (a3 : List UInt8) : callBody C rec n 34 [OV.flat (FV.val (PV.int .i64 a0)), OV.flat (FV.val (PV.agg [PV.int .i64 a1, PV.int .i64 a2, PV.str a3]))] = f34_eval_one rec n a0 a1 a2 a3 := by kernel_rfl

noncomputable def f35_vestryref09_SameExprs.l0.step (rec : Rec) (n : Nat) (self_l0 : List PV → List PV → Int → Option (List OV × List OV)) (x0 : List PV) (x1 : List PV) (x2 : Int) : Option (List OV × List OV) :=
  ifB (decide (x2 < ((List.length x0 : Nat) : Int)))
  (needB (decide ((0 : Int) ≤ x2)) <|
  needB (decide (x2 < ((List.length x0 : Nat) : Int))) <|
  needB (hasT Go.Proofs.Try.prog 35 (nthP x0 (Int.toNat x2))) <|
  needB (decide ((0 : Int) ≤ x2)) <|
  needB (decide (x2 < ((List.length x1 : Nat) : Int))) <|
  needB (hasT Go.Proofs.Try.prog 35 (nthP x1 (Int.toNat x2))) <|
  callB (rec 16 [OV.flat (FV.val (PV.agg [PV.int .i64 (PV.toI (List.headD (PV.cells (nthP x0 (Int.toNat x2))) PV.undef)), PV.int .i64 (PV.toI (List.headD (List.tail (PV.cells (nthP x0 (Int.toNat x2)))) PV.undef)), PV.str (PV.toS (List.headD (List.tail (List.tail (PV.cells (nthP x0 (Int.toNat x2))))) PV.undef)), PV.str (PV.toS (List.headD (List.tail (List.tail (List.tail (PV.cells (nthP x0 (Int.toNat x2)))))) PV.undef)), PV.int .i64 (PV.toI (List.headD (List.tail (List.tail (List.tail (List.tail (PV.cells (nthP x0 (Int.toNat x2))))))) PV.undef)), PV.int .i64 (PV.toI (List.headD (List.tail (List.tail (List.tail (List.tail (List.tail (PV.cells (nthP x0 (Int.toNat x2)))))))) PV.undef)), PV.str (PV.toS (List.headD (List.tail (List.tail (List.tail (List.tail (List.tail (List.tail (PV.cells (nthP x0 (Int.toNat x2))))))))) PV.undef)), PV.sl (some 8) (PV.toL (List.headD (List.tail (List.tail (List.tail (List.tail (List.tail (List.tail (List.tail (PV.cells (nthP x0 (Int.toNat x2)))))))))) PV.undef))])), OV.flat (FV.val (PV.agg [PV.int .i64 (PV.toI (List.headD (PV.cells (nthP x1 (Int.toNat x2))) PV.undef)), PV.int .i64 (PV.toI (List.headD (List.tail (PV.cells (nthP x1 (Int.toNat x2)))) PV.undef)), PV.str (PV.toS (List.headD (List.tail (List.tail (PV.cells (nthP x1 (Int.toNat x2))))) PV.undef)), PV.str (PV.toS (List.headD (List.tail (List.tail (List.tail (PV.cells (nthP x1 (Int.toNat x2)))))) PV.undef)), PV.int .i64 (PV.toI (List.headD (List.tail (List.tail (List.tail (List.tail (PV.cells (nthP x1 (Int.toNat x2))))))) PV.undef)), PV.int .i64 (PV.toI (List.headD (List.tail (List.tail (List.tail (List.tail (List.tail (PV.cells (nthP x1 (Int.toNat x2)))))))) PV.undef)), PV.str (PV.toS (List.headD (List.tail (List.tail (List.tail (List.tail (List.tail (List.tail (PV.cells (nthP x1 (Int.toNat x2))))))))) PV.undef)), PV.sl (some 8) (PV.toL (List.headD (List.tail (List.tail (List.tail (List.tail (List.tail (List.tail (List.tail (PV.cells (nthP x1 (Int.toNat x2)))))))))) PV.undef))]))]) fun r1 => needB (okOs Go.Proofs.Try.prog [4] [] (Prod.fst r1)) <|
  ifB (!(PV.toB (FV.pv (OV.fv (List.headD (Prod.fst r1) (OV.flat FV.gone))))))
  (some ([OV.flat (FV.val (PV.bool false))], []))
  (self_l0 x0 x1 (IntKind.wrap .i64 (x2 + (1 : Int)))))
  (some ([OV.flat (FV.val (PV.bool true))], []))

noncomputable def f35_vestryref09_SameExprs.l0 (rec : Rec) (n : Nat) : Nat → List PV → List PV → Int → Option (List OV × List OV)
  | 0, _, _, _ => none
  | m + 1, x0, x1, x2 => f35_vestryref09_SameExprs.l0.step rec n (f35_vestryref09_SameExprs.l0 rec n m) x0 x1 x2

theorem f35_vestryref09_SameExprs.l0_eq (rec : Rec) (n : Nat) : ∀ (m : Nat) (x0 : List PV) (x1 : List PV) (x2 : Int), loopAt C rec n 35 [1, 1, 0, 1, 0] [] m [(0, SV.home (OV.flat (FV.val (PV.sl (some 8) x0)))), (1, SV.home (OV.flat (FV.val (PV.sl (some 8) x1)))), (5, SV.home (OV.flat (FV.val (PV.int .i64 x2))))] = f35_vestryref09_SameExprs.l0 rec n m x0 x1 x2
  | 0, x0, x1, x2 => by kernel_rfl
  | m + 1, x0, x1, x2 => by
    have ih : (fun x0 x1 x2 => loopAt C rec n 35 [1, 1, 0, 1, 0] [] m [(0, SV.home (OV.flat (FV.val (PV.sl (some 8) x0)))), (1, SV.home (OV.flat (FV.val (PV.sl (some 8) x1)))), (5, SV.home (OV.flat (FV.val (PV.int .i64 x2))))]) = f35_vestryref09_SameExprs.l0 rec n m := funext fun x0 => funext fun x1 => funext fun x2 => f35_vestryref09_SameExprs.l0_eq rec n m x0 x1 x2
    exact (show loopAt C rec n 35 [1, 1, 0, 1, 0] [] (m + 1) [(0, SV.home (OV.flat (FV.val (PV.sl (some 8) x0)))), (1, SV.home (OV.flat (FV.val (PV.sl (some 8) x1)))), (5, SV.home (OV.flat (FV.val (PV.int .i64 x2))))] = f35_vestryref09_SameExprs.l0.step rec n (fun x0 x1 x2 => loopAt C rec n 35 [1, 1, 0, 1, 0] [] m [(0, SV.home (OV.flat (FV.val (PV.sl (some 8) x0)))), (1, SV.home (OV.flat (FV.val (PV.sl (some 8) x1)))), (5, SV.home (OV.flat (FV.val (PV.int .i64 x2))))]) x0 x1 x2 from by kernel_rfl).trans (by rw [ih]; rfl)

noncomputable def f35_vestryref09_SameExprs.pre (rec : Rec) (n : Nat) (l0 : List PV → List PV → Int → Option (List OV × List OV)) (a0 : List PV) (a1 : List PV) : Option (List OV × List OV) :=
  ifB (((List.length a0 : Nat) : Int) != ((List.length a1 : Nat) : Int))
  (some ([OV.flat (FV.val (PV.bool false))], []))
  (l0 a0 a1 (0 : Int))

noncomputable def f35_vestryref09_SameExprs (rec : Rec) (n : Nat) (a0 : List PV) (a1 : List PV) : Option (List OV × List OV) := f35_vestryref09_SameExprs.pre rec n (f35_vestryref09_SameExprs.l0 rec n n) a0 a1

theorem f35_vestryref09_SameExprs_eq (rec : Rec) (n : Nat) (a0 : List PV) (a1 : List PV) : callBody C rec n 35 [OV.flat (FV.val (PV.sl (some 8) a0)), OV.flat (FV.val (PV.sl (some 8) a1))] = f35_vestryref09_SameExprs rec n a0 a1 := by
  have i0 : (fun x0 x1 x2 => loopAt C rec n 35 [1, 1, 0, 1, 0] [] n [(0, SV.home (OV.flat (FV.val (PV.sl (some 8) x0)))), (1, SV.home (OV.flat (FV.val (PV.sl (some 8) x1)))), (5, SV.home (OV.flat (FV.val (PV.int .i64 x2))))]) = f35_vestryref09_SameExprs.l0 rec n n := funext fun x0 => funext fun x1 => funext fun x2 => f35_vestryref09_SameExprs.l0_eq rec n n x0 x1 x2
  exact (show callBody C rec n 35 [OV.flat (FV.val (PV.sl (some 8) a0)), OV.flat (FV.val (PV.sl (some 8) a1))] = f35_vestryref09_SameExprs.pre rec n (fun x0 x1 x2 => loopAt C rec n 35 [1, 1, 0, 1, 0] [] n [(0, SV.home (OV.flat (FV.val (PV.sl (some 8) x0)))), (1, SV.home (OV.flat (FV.val (PV.sl (some 8) x1)))), (5, SV.home (OV.flat (FV.val (PV.int .i64 x2))))]) a0 a1 from by kernel_rfl).trans (by rw [i0]; rfl)

noncomputable def f36_eval_holds (rec : Rec) (n : Nat) (a0 : Int) (a1 : Int) (a2 : List UInt8) : Option (List OV × List OV) :=
  ifB (a0 == (1 : Int))
  (some ([OV.flat (FV.val (PV.bool (a1 != (0 : Int))))], []))
  (some ([OV.flat (FV.val (PV.bool false))], []))

theorem f36_eval_holds_eq (rec : Rec) (n : Nat) (a0 : Int) (a1 : Int) (a2 : List UInt8) : callBody C rec n 36 [OV.flat (FV.val (PV.agg [PV.int .i64 a0, PV.int .i64 a1, PV.str a2]))] = f36_eval_holds rec n a0 a1 a2 := by kernel_rfl

noncomputable def f37_vestryref13_right (rec : Rec) (n : Nat) (a0 : Int) (a1 : Int) (a2 : List UInt8) : Option (List OV × List OV) :=
  callB (rec 27 [OV.flat (FV.val (PV.agg [PV.int .i64 a0, PV.int .i64 a1, PV.str a2]))]) fun r1 => needB (okOs Go.Proofs.Try.prog [25] [] (Prod.fst r1)) <|
  ifB (PV.toI (FV.pv (OV.fv (List.headD (Prod.fst r1) (OV.flat FV.gone)))) != (0 : Int))
  (some ([OV.flat (FV.val (PV.agg [PV.int .i64 (0 : Int), PV.int .i64 (0 : Int), PV.str ([] : List UInt8)])), OV.flat (FV.val (PV.int .i64 (4 : Int)))], []))
  (some ([OV.flat (FV.val (PV.agg [PV.int .i64 a0, PV.int .i64 a1, PV.str a2])), OV.flat (FV.val (PV.int .i64 (0 : Int)))], []))

theorem f37_vestryref13_right_eq (rec : Rec) (n : Nat) (a0 : Int) (a1 : Int) (a2 : List UInt8) : callBody C rec n 37 [OV.flat (FV.val (PV.agg [PV.int .i64 a0, PV.int .i64 a1, PV.str a2]))] = f37_vestryref13_right rec n a0 a1 a2 := by kernel_rfl

noncomputable def f38_vestryref13_one (rec : Rec) (n : Nat) (a0 : Int) (a1 : Int) (a2 : Int) (a3 : List UInt8) : Option (List OV × List OV) :=
  ifB (a0 == (6 : Int))
  (callB (rec 44 [OV.flat (FV.val (PV.bool (a1 == (0 : Int))))]) fun r1 => needB (okOs Go.Proofs.Try.prog [23] [] (Prod.fst r1)) <|
  some ([OV.flat (FV.val (PV.agg [PV.int .i64 (PV.toI (List.headD (PV.cells (FV.pv (OV.fv (List.headD (Prod.fst r1) (OV.flat FV.gone))))) PV.undef)), PV.int .i64 (PV.toI (List.headD (List.tail (PV.cells (FV.pv (OV.fv (List.headD (Prod.fst r1) (OV.flat FV.gone)))))) PV.undef)), PV.str (PV.toS (List.headD (List.tail (List.tail (PV.cells (FV.pv (OV.fv (List.headD (Prod.fst r1) (OV.flat FV.gone))))))) PV.undef))])), OV.flat (FV.val (PV.int .i64 (0 : Int)))], []))
  (ifB (a1 == (0 : Int))
  (some ([OV.flat (FV.val (PV.agg [PV.int .i64 a1, PV.int .i64 a2, PV.str a3])), OV.flat (FV.val (PV.int .i64 (0 : Int)))], []))
  (ifB (a1 == (2 : Int))
  (some ([OV.flat (FV.val (PV.agg [PV.int .i64 (0 : Int), PV.int .i64 (0 : Int), PV.str ([] : List UInt8)])), OV.flat (FV.val (PV.int .i64 (9 : Int)))], []))
  (ifB (a0 == (4 : Int))
  (callB (rec 44 [OV.flat (FV.val (PV.bool (a2 == (0 : Int))))]) fun r2 => needB (okOs Go.Proofs.Try.prog [23] [] (Prod.fst r2)) <|
  some ([OV.flat (FV.val (PV.agg [PV.int .i64 (PV.toI (List.headD (PV.cells (FV.pv (OV.fv (List.headD (Prod.fst r2) (OV.flat FV.gone))))) PV.undef)), PV.int .i64 (PV.toI (List.headD (List.tail (PV.cells (FV.pv (OV.fv (List.headD (Prod.fst r2) (OV.flat FV.gone)))))) PV.undef)), PV.str (PV.toS (List.headD (List.tail (List.tail (PV.cells (FV.pv (OV.fv (List.headD (Prod.fst r2) (OV.flat FV.gone))))))) PV.undef))])), OV.flat (FV.val (PV.int .i64 (0 : Int)))], []))
  (ifB (a2 == (-9223372036854775808 : Int))
  (some ([OV.flat (FV.val (PV.agg [PV.int .i64 (0 : Int), PV.int .i64 (0 : Int), PV.str ([] : List UInt8)])), OV.flat (FV.val (PV.int .i64 (7 : Int)))], []))
  (callB (rec 31 [OV.flat (FV.val (PV.int .i64 (IntKind.wrap .i64 ((0 : Int) - a2))))]) fun r3 => needB (okOs Go.Proofs.Try.prog [23] [] (Prod.fst r3)) <|
  some ([OV.flat (FV.val (PV.agg [PV.int .i64 (PV.toI (List.headD (PV.cells (FV.pv (OV.fv (List.headD (Prod.fst r3) (OV.flat FV.gone))))) PV.undef)), PV.int .i64 (PV.toI (List.headD (List.tail (PV.cells (FV.pv (OV.fv (List.headD (Prod.fst r3) (OV.flat FV.gone)))))) PV.undef)), PV.str (PV.toS (List.headD (List.tail (List.tail (PV.cells (FV.pv (OV.fv (List.headD (Prod.fst r3) (OV.flat FV.gone))))))) PV.undef))])), OV.flat (FV.val (PV.int .i64 (0 : Int)))], []))))))

theorem f38_vestryref13_one_eq (rec : Rec) (n : Nat) (a0 : Int) (a1 : Int) (a2 : Int) (a3 : List UInt8) : callBody C rec n 38 [OV.flat (FV.val (PV.int .i64 a0)), OV.flat (FV.val (PV.agg [PV.int .i64 a1, PV.int .i64 a2, PV.str a3]))] = f38_vestryref13_one rec n a0 a1 a2 a3 := by kernel_rfl

noncomputable def f39_vestryref13_holds (rec : Rec) (n : Nat) (a0 : Int) (a1 : Int) (a2 : List UInt8) : Option (List OV × List OV) :=
  ifB (a0 == (1 : Int))
  (some ([OV.flat (FV.val (PV.bool (a1 != (0 : Int))))], []))
  (some ([OV.flat (FV.val (PV.bool false))], []))

theorem f39_vestryref13_holds_eq (rec : Rec) (n : Nat) (a0 : Int) (a1 : Int) (a2 : List UInt8) : callBody C rec n 39 [OV.flat (FV.val (PV.agg [PV.int .i64 a0, PV.int .i64 a1, PV.str a2]))] = f39_vestryref13_holds rec n a0 a1 a2 := by kernel_rfl

noncomputable def f40_eval_fails (rec : Rec) (n : Nat) (a0 : Int) (a1 : Int) (a2 : List UInt8) : Option (List OV × List OV) :=
  ifB (a0 == (1 : Int))
  (some ([OV.flat (FV.val (PV.bool (a1 == (0 : Int))))], []))
  (some ([OV.flat (FV.val (PV.bool false))], []))

theorem f40_eval_fails_eq (rec : Rec) (n : Nat) (a0 : Int) (a1 : Int) (a2 : List UInt8) : callBody C rec n 40 [OV.flat (FV.val (PV.agg [PV.int .i64 a0, PV.int .i64 a1, PV.str a2]))] = f40_eval_fails rec n a0 a1 a2 := by kernel_rfl

noncomputable def f41_value_Compare (rec : Rec) (n : Nat) (a0 : Int) (a1 : Int) (a2 : List UInt8) (a3 : Int) (a4 : Int) (a5 : List UInt8) : Option (List OV × List OV) :=
  callB (rec 48 [OV.flat (FV.val (PV.int .i64 a0)), OV.flat (FV.val (PV.int .i64 a3))]) fun r1 => needB (okOs Go.Proofs.Try.prog [3] [] (Prod.fst r1)) <|
  callB (rec 48 [OV.flat (FV.val (PV.int .i64 a1)), OV.flat (FV.val (PV.int .i64 a4))]) fun r2 => needB (okOs Go.Proofs.Try.prog [3] [] (Prod.fst r2)) <|
  callB (rec 49 [OV.flat (FV.val (PV.str a2)), OV.flat (FV.val (PV.str a5))]) fun r3 => needB (okOs Go.Proofs.Try.prog [3] [] (Prod.fst r3)) <|
  callB (rec 47 [OV.flat (FV.val (PV.sl none [PV.int .i64 (PV.toI (FV.pv (OV.fv (List.headD (Prod.fst r1) (OV.flat FV.gone))))), PV.int .i64 (PV.toI (FV.pv (OV.fv (List.headD (Prod.fst r2) (OV.flat FV.gone))))), PV.int .i64 (PV.toI (FV.pv (OV.fv (List.headD (Prod.fst r3) (OV.flat FV.gone)))))]))]) fun r4 => needB (okOs Go.Proofs.Try.prog [3] [] (Prod.fst r4)) <|
  some ([OV.flat (FV.val (PV.int .i64 (PV.toI (FV.pv (OV.fv (List.headD (Prod.fst r4) (OV.flat FV.gone)))))))], [])

theorem f41_value_Compare_eq (rec : Rec) (n : Nat) (a0 : Int) (a1 : Int) (a2 : List UInt8) (a3 : Int) (a4 : Int) (a5 : List UInt8) : callBody C rec n 41 [OV.flat (FV.val (PV.agg [PV.int .i64 a0, PV.int .i64 a1, PV.str a2])), OV.flat (FV.val (PV.agg [PV.int .i64 a3, PV.int .i64 a4, PV.str a5]))] = f41_value_Compare rec n a0 a1 a2 a3 a4 a5 := by kernel_rfl

noncomputable def f42_eval_yes (rec : Rec) (n : Nat) (a0 : Bool) : Option (List OV × List OV) :=
  ifB (a0)
  (callB (rec 25 [OV.flat (FV.val (PV.int .i64 (1 : Int))), OV.flat (FV.val (PV.int .i64 (0 : Int)))]) fun r1 => needB (okOs Go.Proofs.Try.prog [23, 25] [] (Prod.fst r1)) <|
  some ([OV.flat (FV.val (PV.agg [PV.int .i64 (PV.toI (List.headD (PV.cells (FV.pv (OV.fv (List.headD (Prod.fst r1) (OV.flat FV.gone))))) PV.undef)), PV.int .i64 (PV.toI (List.headD (List.tail (PV.cells (FV.pv (OV.fv (List.headD (Prod.fst r1) (OV.flat FV.gone)))))) PV.undef)), PV.str (PV.toS (List.headD (List.tail (List.tail (PV.cells (FV.pv (OV.fv (List.headD (Prod.fst r1) (OV.flat FV.gone))))))) PV.undef))])), OV.flat (FV.val (PV.int .i64 (PV.toI (FV.pv (OV.fv (List.headD (List.tail (Prod.fst r1)) (OV.flat FV.gone)))))))], []))
  (callB (rec 25 [OV.flat (FV.val (PV.int .i64 (0 : Int))), OV.flat (FV.val (PV.int .i64 (0 : Int)))]) fun r2 => needB (okOs Go.Proofs.Try.prog [23, 25] [] (Prod.fst r2)) <|
  some ([OV.flat (FV.val (PV.agg [PV.int .i64 (PV.toI (List.headD (PV.cells (FV.pv (OV.fv (List.headD (Prod.fst r2) (OV.flat FV.gone))))) PV.undef)), PV.int .i64 (PV.toI (List.headD (List.tail (PV.cells (FV.pv (OV.fv (List.headD (Prod.fst r2) (OV.flat FV.gone)))))) PV.undef)), PV.str (PV.toS (List.headD (List.tail (List.tail (PV.cells (FV.pv (OV.fv (List.headD (Prod.fst r2) (OV.flat FV.gone))))))) PV.undef))])), OV.flat (FV.val (PV.int .i64 (PV.toI (FV.pv (OV.fv (List.headD (List.tail (Prod.fst r2)) (OV.flat FV.gone)))))))], []))

theorem f42_eval_yes_eq (rec : Rec) (n : Nat) (a0 : Bool) : callBody C rec n 42 [OV.flat (FV.val (PV.bool a0))] = f42_eval_yes rec n a0 := by kernel_rfl

noncomputable def f43_eval_times (rec : Rec) (n : Nat) (a0 : Int) (a1 : Int) : Option (List OV × List OV) :=
  callB (rec 51 [OV.flat (FV.val (PV.int .i64 a0))]) fun r1 => needB (okOs Go.Proofs.Try.prog [65] [] (Prod.fst r1)) <|
  callB (rec 51 [OV.flat (FV.val (PV.int .i64 a1))]) fun r2 => needB (okOs Go.Proofs.Try.prog [65] [] (Prod.fst r2)) <|
  callB (rec 50 [OV.flat (FV.val (PV.int .u64 (PV.toI (FV.pv (OV.fv (List.headD (Prod.fst r1) (OV.flat FV.gone))))))), OV.flat (FV.val (PV.int .u64 (PV.toI (FV.pv (OV.fv (List.headD (Prod.fst r2) (OV.flat FV.gone)))))))]) fun r3 => needB (okOs Go.Proofs.Try.prog [65, 65] [] (Prod.fst r3)) <|
  ifB (decide (PV.toI (FV.pv (OV.fv (List.headD (Prod.fst r3) (OV.flat FV.gone)))) > (0 : Int)))
  (some ([OV.flat (FV.val (PV.int .i64 (0 : Int))), OV.flat (FV.val (PV.int .i64 (7 : Int)))], []))
  (ifB (decide (PV.toI (FV.pv (OV.fv (List.headD (List.tail (Prod.fst r3)) (OV.flat FV.gone)))) > (9223372036854775808 : Int)))
  (some ([OV.flat (FV.val (PV.int .i64 (0 : Int))), OV.flat (FV.val (PV.int .i64 (7 : Int)))], []))
  (ifB (PV.toI (FV.pv (OV.fv (List.headD (List.tail (Prod.fst r3)) (OV.flat FV.gone)))) == (9223372036854775808 : Int))
  (ifB (!(!((decide (a0 < (0 : Int))) == (decide (a1 < (0 : Int))))))
  (some ([OV.flat (FV.val (PV.int .i64 (0 : Int))), OV.flat (FV.val (PV.int .i64 (7 : Int)))], []))
  (some ([OV.flat (FV.val (PV.int .i64 (IntKind.wrap .i64 (a0 * a1)))), OV.flat (FV.val (PV.int .i64 (0 : Int)))], [])))
  (some ([OV.flat (FV.val (PV.int .i64 (IntKind.wrap .i64 (a0 * a1)))), OV.flat (FV.val (PV.int .i64 (0 : Int)))], []))))

theorem f43_eval_times_eq (rec : Rec) (n : Nat) (a0 : Int) (a1 : Int) : callBody C rec n 43 [OV.flat (FV.val (PV.int .i64 a0)), OV.flat (FV.val (PV.int .i64 a1))] = f43_eval_times rec n a0 a1 := by kernel_rfl

noncomputable def f44_vestryref13_yes (rec : Rec) (n : Nat) (a0 : Bool) : Option (List OV × List OV) :=
  ifB (a0)
  (callB (rec 31 [OV.flat (FV.val (PV.int .i64 (1 : Int)))]) fun r1 => needB (okOs Go.Proofs.Try.prog [23] [] (Prod.fst r1)) <|
  some ([OV.flat (FV.val (PV.agg [PV.int .i64 (PV.toI (List.headD (PV.cells (FV.pv (OV.fv (List.headD (Prod.fst r1) (OV.flat FV.gone))))) PV.undef)), PV.int .i64 (PV.toI (List.headD (List.tail (PV.cells (FV.pv (OV.fv (List.headD (Prod.fst r1) (OV.flat FV.gone)))))) PV.undef)), PV.str (PV.toS (List.headD (List.tail (List.tail (PV.cells (FV.pv (OV.fv (List.headD (Prod.fst r1) (OV.flat FV.gone))))))) PV.undef))]))], []))
  (callB (rec 31 [OV.flat (FV.val (PV.int .i64 (0 : Int)))]) fun r2 => needB (okOs Go.Proofs.Try.prog [23] [] (Prod.fst r2)) <|
  some ([OV.flat (FV.val (PV.agg [PV.int .i64 (PV.toI (List.headD (PV.cells (FV.pv (OV.fv (List.headD (Prod.fst r2) (OV.flat FV.gone))))) PV.undef)), PV.int .i64 (PV.toI (List.headD (List.tail (PV.cells (FV.pv (OV.fv (List.headD (Prod.fst r2) (OV.flat FV.gone)))))) PV.undef)), PV.str (PV.toS (List.headD (List.tail (List.tail (PV.cells (FV.pv (OV.fv (List.headD (Prod.fst r2) (OV.flat FV.gone))))))) PV.undef))]))], []))

theorem f44_vestryref13_yes_eq (rec : Rec) (n : Nat) (a0 : Bool) : callBody C rec n 44 [OV.flat (FV.val (PV.bool a0))] = f44_vestryref13_yes rec n a0 := by kernel_rfl

noncomputable def f45_vestryref07_Compare (rec : Rec) (n : Nat) (a0 : Int) (a1 : Int) (a2 : List UInt8) (a3 : Int) (a4 : Int) (a5 : List UInt8) : Option (List OV × List OV) :=
  ifB ((a0 == a3) && ((a1 == a4) && ((a2 == a5) && (true))))
  (some ([OV.flat (FV.val (PV.int .i64 (0 : Int)))], []))
  (ifB (decide (a0 < a3))
  (some ([OV.flat (FV.val (PV.int .i64 (-1 : Int)))], []))
  (ifB (a0 == a3)
  (ifB (decide (a1 < a4))
  (some ([OV.flat (FV.val (PV.int .i64 (-1 : Int)))], []))
  (ifB (a1 == a4)
  (ifB (Op.bytesLess a2 a5)
  (some ([OV.flat (FV.val (PV.int .i64 (-1 : Int)))], []))
  (some ([OV.flat (FV.val (PV.int .i64 (1 : Int)))], [])))
  (some ([OV.flat (FV.val (PV.int .i64 (1 : Int)))], []))))
  (some ([OV.flat (FV.val (PV.int .i64 (1 : Int)))], []))))

theorem f45_vestryref07_Compare_eq (rec : Rec) (n : Nat) (a0 : Int) (a1 : Int) (a2 : List UInt8) (a3 : Int) (a4 : Int) (a5 : List UInt8) : callBody C rec n 45 [OV.flat (FV.val (PV.agg [PV.int .i64 a0, PV.int .i64 a1, PV.str a2])), OV.flat (FV.val (PV.agg [PV.int .i64 a3, PV.int .i64 a4, PV.str a5]))] = f45_vestryref07_Compare rec n a0 a1 a2 a3 a4 a5 := by kernel_rfl

noncomputable def f46_vestryref13_times (rec : Rec) (n : Nat) (a0 : Int) (a1 : Int) : Option (List OV × List OV) :=
  ifB (a0 == (0 : Int))
  (some ([OV.flat (FV.val (PV.int .i64 (0 : Int))), OV.flat (FV.val (PV.bool true))], []))
  (ifB (a1 == (0 : Int))
  (some ([OV.flat (FV.val (PV.int .i64 (0 : Int))), OV.flat (FV.val (PV.bool true))], []))
  (ifB (a0 == (-9223372036854775808 : Int))
  (ifB (a0 == (1 : Int))
  (some ([OV.flat (FV.val (PV.int .i64 (-9223372036854775808 : Int))), OV.flat (FV.val (PV.bool true))], []))
  (some ([OV.flat (FV.val (PV.int .i64 (-9223372036854775808 : Int))), OV.flat (FV.val (PV.bool (a1 == (1 : Int))))], [])))
  (ifB (a1 == (-9223372036854775808 : Int))
  (ifB (a0 == (1 : Int))
  (some ([OV.flat (FV.val (PV.int .i64 (-9223372036854775808 : Int))), OV.flat (FV.val (PV.bool true))], []))
  (some ([OV.flat (FV.val (PV.int .i64 (-9223372036854775808 : Int))), OV.flat (FV.val (PV.bool (a1 == (1 : Int))))], [])))
  (needB (mxI a1 (IntKind.wrap .i64 ((0 : Int) - a1)) != 0) <|
  ifB (decide (mxI a0 (IntKind.wrap .i64 ((0 : Int) - a0)) > IntKind.wrap .i64 (Int.tdiv (9223372036854775807 : Int) (mxI a1 (IntKind.wrap .i64 ((0 : Int) - a1))))))
  (ifB (!((decide (a0 < (0 : Int))) == (decide (a1 < (0 : Int)))))
  (needB (mxI a1 (IntKind.wrap .i64 ((0 : Int) - a1)) != 0) <|
  ifB (mxI a0 (IntKind.wrap .i64 ((0 : Int) - a0)) == IntKind.wrap .i64 (IntKind.wrap .i64 (Int.tdiv (9223372036854775807 : Int) (mxI a1 (IntKind.wrap .i64 ((0 : Int) - a1)))) + (1 : Int)))
  (some ([OV.flat (FV.val (PV.int .i64 (-9223372036854775808 : Int))), OV.flat (FV.val (PV.bool (IntKind.wrap .i64 (mxI a0 (IntKind.wrap .i64 ((0 : Int) - a0)) * mxI a1 (IntKind.wrap .i64 ((0 : Int) - a1))) == (-9223372036854775808 : Int))))], []))
  (some ([OV.flat (FV.val (PV.int .i64 (-9223372036854775808 : Int))), OV.flat (FV.val (PV.bool false))], [])))
  (some ([OV.flat (FV.val (PV.int .i64 (-9223372036854775808 : Int))), OV.flat (FV.val (PV.bool false))], [])))
  (some ([OV.flat (FV.val (PV.int .i64 (IntKind.wrap .i64 (a0 * a1)))), OV.flat (FV.val (PV.bool true))], []))))))

theorem f46_vestryref13_times_eq (rec : Rec) (n : Nat) (a0 : Int) (a1 : Int) : callBody C rec n 46 [OV.flat (FV.val (PV.int .i64 a0)), OV.flat (FV.val (PV.int .i64 a1))] = f46_vestryref13_times rec n a0 a1 := by kernel_rfl

noncomputable def f47_cmp_Or_int.l0.step (rec : Rec) (n : Nat) (self_l0 : Int → List PV → Int → Int → Option (List OV × List OV)) (x0 : Int) (x1 : List PV) (x2 : Int) (x3 : Int) : Option (List OV × List OV) :=
  ifB (decide (x3 < x2))
  (needB (decide ((0 : Int) ≤ x3)) <|
  needB (decide (x3 < ((List.length x1 : Nat) : Int))) <|
  needB (hasT Go.Proofs.Try.prog 3 (nthP x1 (Int.toNat x3))) <|
  ifB (PV.toI (nthP x1 (Int.toNat x3)) != x0)
  (some ([OV.flat (FV.val (PV.int .i64 (PV.toI (nthP x1 (Int.toNat x3)))))], []))
  (self_l0 x0 x1 x2 (IntKind.wrap .i64 (x3 + (1 : Int)))))
  (some ([OV.flat (FV.val (PV.int .i64 x0))], []))

noncomputable def f47_cmp_Or_int.l0 (rec : Rec) (n : Nat) : Nat → Int → List PV → Int → Int → Option (List OV × List OV)
  | 0, _, _, _, _ => none
  | m + 1, x0, x1, x2, x3 => f47_cmp_Or_int.l0.step rec n (f47_cmp_Or_int.l0 rec n m) x0 x1 x2 x3

theorem f47_cmp_Or_int.l0_eq (rec : Rec) (n : Nat) : ∀ (m : Nat) (x0 : Int) (x1 : List PV) (x2 : Int) (x3 : Int), loopAt C rec n 47 [1, 1, 0, 1, 0] [] m [(3, SV.home (OV.flat (FV.val (PV.int .i64 x0)))), (6, SV.home (OV.flat (FV.val (PV.sl none x1)))), (7, SV.home (OV.flat (FV.val (PV.int .i64 x2)))), (8, SV.home (OV.flat (FV.val (PV.int .i64 x3))))] = f47_cmp_Or_int.l0 rec n m x0 x1 x2 x3
  | 0, x0, x1, x2, x3 => by kernel_rfl
  | m + 1, x0, x1, x2, x3 => by
    have ih : (fun x0 x1 x2 x3 => loopAt C rec n 47 [1, 1, 0, 1, 0] [] m [(3, SV.home (OV.flat (FV.val (PV.int .i64 x0)))), (6, SV.home (OV.flat (FV.val (PV.sl none x1)))), (7, SV.home (OV.flat (FV.val (PV.int .i64 x2)))), (8, SV.home (OV.flat (FV.val (PV.int .i64 x3))))]) = f47_cmp_Or_int.l0 rec n m := funext fun x0 => funext fun x1 => funext fun x2 => funext fun x3 => f47_cmp_Or_int.l0_eq rec n m x0 x1 x2 x3
    exact (show loopAt C rec n 47 [1, 1, 0, 1, 0] [] (m + 1) [(3, SV.home (OV.flat (FV.val (PV.int .i64 x0)))), (6, SV.home (OV.flat (FV.val (PV.sl none x1)))), (7, SV.home (OV.flat (FV.val (PV.int .i64 x2)))), (8, SV.home (OV.flat (FV.val (PV.int .i64 x3))))] = f47_cmp_Or_int.l0.step rec n (fun x0 x1 x2 x3 => loopAt C rec n 47 [1, 1, 0, 1, 0] [] m [(3, SV.home (OV.flat (FV.val (PV.int .i64 x0)))), (6, SV.home (OV.flat (FV.val (PV.sl none x1)))), (7, SV.home (OV.flat (FV.val (PV.int .i64 x2)))), (8, SV.home (OV.flat (FV.val (PV.int .i64 x3))))]) x0 x1 x2 x3 from by kernel_rfl).trans (by rw [ih]; rfl)

noncomputable def f47_cmp_Or_int.pre (rec : Rec) (n : Nat) (l0 : Int → List PV → Int → Int → Option (List OV × List OV)) (a0 : List PV) : Option (List OV × List OV) :=
  l0 (0 : Int) a0 ((List.length a0 : Nat) : Int) (0 : Int)

noncomputable def f47_cmp_Or_int (rec : Rec) (n : Nat) (a0 : List PV) : Option (List OV × List OV) := f47_cmp_Or_int.pre rec n (f47_cmp_Or_int.l0 rec n n) a0

theorem f47_cmp_Or_int_eq (rec : Rec) (n : Nat) (a0 : List PV) : callBody C rec n 47 [OV.flat (FV.val (PV.sl none a0))] = f47_cmp_Or_int rec n a0 := by
  have i0 : (fun x0 x1 x2 x3 => loopAt C rec n 47 [1, 1, 0, 1, 0] [] n [(3, SV.home (OV.flat (FV.val (PV.int .i64 x0)))), (6, SV.home (OV.flat (FV.val (PV.sl none x1)))), (7, SV.home (OV.flat (FV.val (PV.int .i64 x2)))), (8, SV.home (OV.flat (FV.val (PV.int .i64 x3))))]) = f47_cmp_Or_int.l0 rec n n := funext fun x0 => funext fun x1 => funext fun x2 => funext fun x3 => f47_cmp_Or_int.l0_eq rec n n x0 x1 x2 x3
  exact (show callBody C rec n 47 [OV.flat (FV.val (PV.sl none a0))] = f47_cmp_Or_int.pre rec n (fun x0 x1 x2 x3 => loopAt C rec n 47 [1, 1, 0, 1, 0] [] n [(3, SV.home (OV.flat (FV.val (PV.int .i64 x0)))), (6, SV.home (OV.flat (FV.val (PV.sl none x1)))), (7, SV.home (OV.flat (FV.val (PV.int .i64 x2)))), (8, SV.home (OV.flat (FV.val (PV.int .i64 x3))))]) a0 from by kernel_rfl).trans (by rw [i0]; rfl)

noncomputable def f48_cmp_Compare_int (rec : Rec) (n : Nat) (a0 : Int) (a1 : Int) : Option (List OV × List OV) :=
  callB (rec 52 [OV.flat (FV.val (PV.int .i64 a0))]) fun r1 => needB (okOs Go.Proofs.Try.prog [4] [] (Prod.fst r1)) <|
  callB (rec 52 [OV.flat (FV.val (PV.int .i64 a1))]) fun r2 => needB (okOs Go.Proofs.Try.prog [4] [] (Prod.fst r2)) <|
  ifB (PV.toB (FV.pv (OV.fv (List.headD (Prod.fst r1) (OV.flat FV.gone)))))
  (ifB (PV.toB (FV.pv (OV.fv (List.headD (Prod.fst r2) (OV.flat FV.gone)))))
  (some ([OV.flat (FV.val (PV.int .i64 (0 : Int)))], []))
  (some ([OV.flat (FV.val (PV.int .i64 (-1 : Int)))], [])))
  (ifB (PV.toB (FV.pv (OV.fv (List.headD (Prod.fst r2) (OV.flat FV.gone)))))
  (some ([OV.flat (FV.val (PV.int .i64 (1 : Int)))], []))
  (ifB (decide (a0 < a1))
  (some ([OV.flat (FV.val (PV.int .i64 (-1 : Int)))], []))
  (ifB (decide (a0 > a1))
  (some ([OV.flat (FV.val (PV.int .i64 (1 : Int)))], []))
  (some ([OV.flat (FV.val (PV.int .i64 (0 : Int)))], [])))))

theorem f48_cmp_Compare_int_eq (rec : Rec) (n : Nat) (a0 : Int) (a1 : Int) : callBody C rec n 48 [OV.flat (FV.val (PV.int .i64 a0)), OV.flat (FV.val (PV.int .i64 a1))] = f48_cmp_Compare_int rec n a0 a1 := by kernel_rfl

noncomputable def f49_strings_Compare (rec : Rec) (n : Nat) (a0 : List UInt8) (a1 : List UInt8) : Option (List OV × List OV) :=
  callB (rec 53 [OV.flat (FV.val (PV.str a0)), OV.flat (FV.val (PV.str a1))]) fun r1 => needB (okOs Go.Proofs.Try.prog [3] [] (Prod.fst r1)) <|
  some ([OV.flat (FV.val (PV.int .i64 (PV.toI (FV.pv (OV.fv (List.headD (Prod.fst r1) (OV.flat FV.gone)))))))], [])

theorem f49_strings_Compare_eq (rec : Rec) (n : Nat) (a0 : List UInt8) (a1 : List UInt8) : callBody C rec n 49 [OV.flat (FV.val (PV.str a0)), OV.flat (FV.val (PV.str a1))] = f49_strings_Compare rec n a0 a1 := by kernel_rfl

noncomputable def f50_bits_Mul64 (rec : Rec) (n : Nat) (a0 : Int) (a1 : Int) : Option (List OV × List OV) :=
  some ([OV.flat (FV.val (PV.int .u64 (IntKind.wrap .u64 (IntKind.wrap .u64 (IntKind.wrap .u64 (Int.fdiv a0 ((2 : Int) ^ (min 32 (IntKind.bits .u64))) * Int.fdiv a1 ((2 : Int) ^ (min 32 (IntKind.bits .u64)))) + Int.fdiv (IntKind.wrap .u64 (IntKind.wrap .u64 (Int.fdiv a0 ((2 : Int) ^ (min 32 (IntKind.bits .u64))) * IntKind.wrap .u64 (((BitVec.toNat ((BitVec.ofInt (IntKind.bits .u64) a1) &&& (BitVec.ofInt (IntKind.bits .u64) (4294967295 : Int))) : Nat) : Int))) + Int.fdiv (IntKind.wrap .u64 (IntKind.wrap .u64 (((BitVec.toNat ((BitVec.ofInt (IntKind.bits .u64) a0) &&& (BitVec.ofInt (IntKind.bits .u64) (4294967295 : Int))) : Nat) : Int)) * IntKind.wrap .u64 (((BitVec.toNat ((BitVec.ofInt (IntKind.bits .u64) a1) &&& (BitVec.ofInt (IntKind.bits .u64) (4294967295 : Int))) : Nat) : Int)))) ((2 : Int) ^ (min 32 (IntKind.bits .u64))))) ((2 : Int) ^ (min 32 (IntKind.bits .u64)))) + Int.fdiv (IntKind.wrap .u64 (IntKind.wrap .u64 (((BitVec.toNat ((BitVec.ofInt (IntKind.bits .u64) (IntKind.wrap .u64 (IntKind.wrap .u64 (Int.fdiv a0 ((2 : Int) ^ (min 32 (IntKind.bits .u64))) * IntKind.wrap .u64 (((BitVec.toNat ((BitVec.ofInt (IntKind.bits .u64) a1) &&& (BitVec.ofInt (IntKind.bits .u64) (4294967295 : Int))) : Nat) : Int))) + Int.fdiv (IntKind.wrap .u64 (IntKind.wrap .u64 (((BitVec.toNat ((BitVec.ofInt (IntKind.bits .u64) a0) &&& (BitVec.ofInt (IntKind.bits .u64) (4294967295 : Int))) : Nat) : Int)) * IntKind.wrap .u64 (((BitVec.toNat ((BitVec.ofInt (IntKind.bits .u64) a1) &&& (BitVec.ofInt (IntKind.bits .u64) (4294967295 : Int))) : Nat) : Int)))) ((2 : Int) ^ (min 32 (IntKind.bits .u64)))))) &&& (BitVec.ofInt (IntKind.bits .u64) (4294967295 : Int))) : Nat) : Int)) + IntKind.wrap .u64 (IntKind.wrap .u64 (((BitVec.toNat ((BitVec.ofInt (IntKind.bits .u64) a0) &&& (BitVec.ofInt (IntKind.bits .u64) (4294967295 : Int))) : Nat) : Int)) * Int.fdiv a1 ((2 : Int) ^ (min 32 (IntKind.bits .u64)))))) ((2 : Int) ^ (min 32 (IntKind.bits .u64))))))), OV.flat (FV.val (PV.int .u64 (IntKind.wrap .u64 (a0 * a1))))], [])

theorem f50_bits_Mul64_eq (rec : Rec) (n : Nat) (a0 : Int) (a1 : Int) : callBody C rec n 50 [OV.flat (FV.val (PV.int .u64 a0)), OV.flat (FV.val (PV.int .u64 a1))] = f50_bits_Mul64 rec n a0 a1 := by kernel_rfl

noncomputable def f51_eval_size (rec : Rec) (n : Nat) (a0 : Int) : Option (List OV × List OV) :=
  ifB (decide (a0 < (0 : Int)))
  (some ([OV.flat (FV.val (PV.int .u64 (IntKind.wrap .u64 ((0 : Int) - IntKind.wrap .u64 a0))))], []))
  (some ([OV.flat (FV.val (PV.int .u64 (IntKind.wrap .u64 a0)))], []))

theorem f51_eval_size_eq (rec : Rec) (n : Nat) (a0 : Int) : callBody C rec n 51 [OV.flat (FV.val (PV.int .i64 a0))] = f51_eval_size rec n a0 := by kernel_rfl

noncomputable def f52_cmp_isNaN_int (rec : Rec) (n : Nat) (a0 : Int) : Option (List OV × List OV) :=
  some ([OV.flat (FV.val (PV.bool (a0 != a0)))], [])

theorem f52_cmp_isNaN_int_eq (rec : Rec) (n : Nat) (a0 : Int) : callBody C rec n 52 [OV.flat (FV.val (PV.int .i64 a0))] = f52_cmp_isNaN_int rec n a0 := by kernel_rfl

end Go.Proofs.Ytdmigcfokjobaaa

