/- What the functions answer, and the laws. -/
import Derived.Test.YtoaclbilkoeghaaDoorCtx

set_option linter.unusedVariables false

set_option linter.unusedSimpArgs false

set_option linter.unusedSectionVars false

open Go Go.Ev

set_option linter.unusedVariables false

set_option maxRecDepth 100000

namespace Go.Proofs.YtoaclbilkoeghaaDoor

noncomputable def f5_vestrylaw15_PlanBoth (rec : Rec) (n : Nat) (a0 : List PV) (a1 : List PV) (a2 : Bool) (a3 : List PV) (a4 : List PV) (a5 : Bool) (a6 : List PV) : Option (List OV × List OV) :=
  callB (rec 8 []) fun r1 => needB (okOs Go.Proofs.Tryd.prog [4] [] (Prod.fst r1)) <|
  callB (rec 18 [OV.flat (FV.val (PV.agg [PV.sl none a0, PV.sl none a1, PV.bool a2])), OV.flat (FV.val (PV.sl none a6))]) fun r2 => needB (okOs Go.Proofs.Tryd.prog [4] [] (Prod.fst r2)) <|
  callB (rec 18 [OV.flat (FV.val (PV.agg [PV.sl none a3, PV.sl none a4, PV.bool a5])), OV.flat (FV.val (PV.sl none a6))]) fun r3 => needB (okOs Go.Proofs.Tryd.prog [4] [] (Prod.fst r3)) <|
  callB (rec 15 [OV.flat (FV.val (PV.agg [PV.sl none a0, PV.sl none a1, PV.bool a2])), OV.flat (FV.val (PV.agg [PV.sl none a3, PV.sl none a4, PV.bool a5]))]) fun r4 => needB (okOs Go.Proofs.Tryd.prog [31] [.a [true, true, false]] (Prod.fst r4)) <|
  callB (rec 15 [OV.flat (FV.val (PV.agg [PV.sl none a3, PV.sl none a4, PV.bool a5])), OV.flat (FV.val (PV.agg [PV.sl none a0, PV.sl none a1, PV.bool a2]))]) fun r5 => needB (okOs Go.Proofs.Tryd.prog [31] [.a [true, true, false]] (Prod.fst r5)) <|
  callB (rec 19 []) fun r6 => needB (okOs Go.Proofs.Tryd.prog [31] [.a [true, true, false]] (Prod.fst r6)) <|
  callB (rec 18 [OV.flat (FV.val (PV.agg [PV.sl none (FV.xs (List.headD (OV.cells (List.headD (Prod.fst r6) (OV.flat FV.gone))) FV.gone)), PV.sl none (FV.xs (List.headD (List.tail (OV.cells (List.headD (Prod.fst r6) (OV.flat FV.gone)))) FV.gone)), PV.bool (PV.toB (FV.pv (List.headD (List.tail (List.tail (OV.cells (List.headD (Prod.fst r6) (OV.flat FV.gone))))) FV.gone)))])), OV.flat (FV.val (PV.sl none a6))]) fun r7 => needB (okOs Go.Proofs.Tryd.prog [4] [] (Prod.fst r7)) <|
  callB (rec 20 []) fun r8 => needB (okOs Go.Proofs.Tryd.prog [31] [.a [true, true, false]] (Prod.fst r8)) <|
  callB (rec 18 [OV.flat (FV.val (PV.agg [PV.sl none (FV.xs (List.headD (OV.cells (List.headD (Prod.fst r8) (OV.flat FV.gone))) FV.gone)), PV.sl none (FV.xs (List.headD (List.tail (OV.cells (List.headD (Prod.fst r8) (OV.flat FV.gone)))) FV.gone)), PV.bool (PV.toB (FV.pv (List.headD (List.tail (List.tail (OV.cells (List.headD (Prod.fst r8) (OV.flat FV.gone))))) FV.gone)))])), OV.flat (FV.val (PV.sl none a6))]) fun r9 => needB (okOs Go.Proofs.Tryd.prog [4] [] (Prod.fst r9)) <|
  ifB (PV.toB (FV.pv (OV.fv (List.headD (Prod.fst r1) (OV.flat FV.gone)))))
  (callB (rec 18 [OV.flat (FV.val (PV.agg [PV.sl none (FV.xs (List.headD (OV.cells (List.headD (Prod.fst r4) (OV.flat FV.gone))) FV.gone)), PV.sl none (FV.xs (List.headD (List.tail (OV.cells (List.headD (Prod.fst r4) (OV.flat FV.gone)))) FV.gone)), PV.bool (PV.toB (FV.pv (List.headD (List.tail (List.tail (OV.cells (List.headD (Prod.fst r4) (OV.flat FV.gone))))) FV.gone)))])), OV.flat (FV.val (PV.sl none a6))]) fun r10 => needB (okOs Go.Proofs.Tryd.prog [4] [] (Prod.fst r10)) <|
  ifB (PV.toB (FV.pv (OV.fv (List.headD (Prod.fst r2) (OV.flat FV.gone)))))
  (ifB ((PV.toB (FV.pv (OV.fv (List.headD (Prod.fst r10) (OV.flat FV.gone))))) == (PV.toB (FV.pv (OV.fv (List.headD (Prod.fst r3) (OV.flat FV.gone))))))
  (callB (rec 11 [OV.flat (FV.val (PV.agg [PV.sl none (FV.xs (List.headD (OV.cells (List.headD (Prod.fst r4) (OV.flat FV.gone))) FV.gone)), PV.sl none (FV.xs (List.headD (List.tail (OV.cells (List.headD (Prod.fst r4) (OV.flat FV.gone)))) FV.gone)), PV.bool (PV.toB (FV.pv (List.headD (List.tail (List.tail (OV.cells (List.headD (Prod.fst r4) (OV.flat FV.gone))))) FV.gone)))])), OV.flat (FV.val (PV.agg [PV.sl none (FV.xs (List.headD (OV.cells (List.headD (Prod.fst r5) (OV.flat FV.gone))) FV.gone)), PV.sl none (FV.xs (List.headD (List.tail (OV.cells (List.headD (Prod.fst r5) (OV.flat FV.gone)))) FV.gone)), PV.bool (PV.toB (FV.pv (List.headD (List.tail (List.tail (OV.cells (List.headD (Prod.fst r5) (OV.flat FV.gone))))) FV.gone)))]))]) fun r11 => needB (okOs Go.Proofs.Tryd.prog [4] [] (Prod.fst r11)) <|
  ifB (PV.toB (FV.pv (OV.fv (List.headD (Prod.fst r11) (OV.flat FV.gone)))))
  (ifB (PV.toB (FV.pv (OV.fv (List.headD (Prod.fst r7) (OV.flat FV.gone)))))
  (some ([OV.flat (FV.val (PV.bool (!(PV.toB (FV.pv (OV.fv (List.headD (Prod.fst r9) (OV.flat FV.gone))))))))], []))
  (some ([OV.flat (FV.val (PV.bool false))], [])))
  (some ([OV.flat (FV.val (PV.bool false))], [])))
  (some ([OV.flat (FV.val (PV.bool false))], [])))
  (ifB ((PV.toB (FV.pv (OV.fv (List.headD (Prod.fst r10) (OV.flat FV.gone))))) == false)
  (callB (rec 11 [OV.flat (FV.val (PV.agg [PV.sl none (FV.xs (List.headD (OV.cells (List.headD (Prod.fst r4) (OV.flat FV.gone))) FV.gone)), PV.sl none (FV.xs (List.headD (List.tail (OV.cells (List.headD (Prod.fst r4) (OV.flat FV.gone)))) FV.gone)), PV.bool (PV.toB (FV.pv (List.headD (List.tail (List.tail (OV.cells (List.headD (Prod.fst r4) (OV.flat FV.gone))))) FV.gone)))])), OV.flat (FV.val (PV.agg [PV.sl none (FV.xs (List.headD (OV.cells (List.headD (Prod.fst r5) (OV.flat FV.gone))) FV.gone)), PV.sl none (FV.xs (List.headD (List.tail (OV.cells (List.headD (Prod.fst r5) (OV.flat FV.gone)))) FV.gone)), PV.bool (PV.toB (FV.pv (List.headD (List.tail (List.tail (OV.cells (List.headD (Prod.fst r5) (OV.flat FV.gone))))) FV.gone)))]))]) fun r12 => needB (okOs Go.Proofs.Tryd.prog [4] [] (Prod.fst r12)) <|
  ifB (PV.toB (FV.pv (OV.fv (List.headD (Prod.fst r12) (OV.flat FV.gone)))))
  (ifB (PV.toB (FV.pv (OV.fv (List.headD (Prod.fst r7) (OV.flat FV.gone)))))
  (some ([OV.flat (FV.val (PV.bool (!(PV.toB (FV.pv (OV.fv (List.headD (Prod.fst r9) (OV.flat FV.gone))))))))], []))
  (some ([OV.flat (FV.val (PV.bool false))], [])))
  (some ([OV.flat (FV.val (PV.bool false))], [])))
  (some ([OV.flat (FV.val (PV.bool false))], []))))
  (some ([OV.flat (FV.val (PV.bool false))], []))

theorem f5_vestrylaw15_PlanBoth_eq (rec : Rec) (n : Nat) (a0 : List PV) (a1 : List PV) (a2 : Bool) (a3 : List PV) (a4 : List PV) (a5 : Bool) (a6 : List PV) : callBody C rec n 5 [OV.flat (FV.val (PV.agg [PV.sl none a0, PV.sl none a1, PV.bool a2])), OV.flat (FV.val (PV.agg [PV.sl none a3, PV.sl none a4, PV.bool a5])), OV.flat (FV.val (PV.sl none a6))] = f5_vestrylaw15_PlanBoth rec n a0 a1 a2 a3 a4 a5 a6 := by kernel_rfl

noncomputable def f6_vestrylaw15_PlanPoints (rec : Rec) (n : Nat) (a0 : Int) (a1 : Int) (a2 : Int) (a3 : List UInt8) (a4 : Int) (a5 : Int) (a6 : List UInt8) : Option (List OV × List OV) :=
  callB (rec 8 []) fun r1 => needB (okOs Go.Proofs.Tryd.prog [4] [] (Prod.fst r1)) <|
  callB (rec 21 [OV.flat (FV.val (PV.agg [PV.int .i64 a1, PV.int .i64 a2, PV.str a3]))]) fun r2 => needB (okOs Go.Proofs.Tryd.prog [42] [] (Prod.fst r2)) <|
  ifB (PV.toI (FV.pv (OV.fv (List.headD (Prod.fst r2) (OV.flat FV.gone)))) != (0 : Int))
  (some ([OV.flat (FV.val (PV.bool (PV.toB (FV.pv (OV.fv (List.headD (Prod.fst r1) (OV.flat FV.gone)))))))], []))
  (callB (rec 21 [OV.flat (FV.val (PV.agg [PV.int .i64 a4, PV.int .i64 a5, PV.str a6]))]) fun r3 => needB (okOs Go.Proofs.Tryd.prog [42] [] (Prod.fst r3)) <|
  ifB (PV.toI (FV.pv (OV.fv (List.headD (Prod.fst r3) (OV.flat FV.gone)))) != (0 : Int))
  (some ([OV.flat (FV.val (PV.bool (PV.toB (FV.pv (OV.fv (List.headD (Prod.fst r1) (OV.flat FV.gone)))))))], []))
  (ifB (a1 == (0 : Int))
  (some ([OV.flat (FV.val (PV.bool (PV.toB (FV.pv (OV.fv (List.headD (Prod.fst r1) (OV.flat FV.gone)))))))], []))
  (ifB (decide (a0 < (3 : Int)))
  (some ([OV.flat (FV.val (PV.bool (PV.toB (FV.pv (OV.fv (List.headD (Prod.fst r1) (OV.flat FV.gone)))))))], []))
  (ifB (decide (a0 > (8 : Int)))
  (some ([OV.flat (FV.val (PV.bool (PV.toB (FV.pv (OV.fv (List.headD (Prod.fst r1) (OV.flat FV.gone)))))))], []))
  (ifB (a0 == (4 : Int))
  (some ([OV.flat (FV.val (PV.bool (PV.toB (FV.pv (OV.fv (List.headD (Prod.fst r1) (OV.flat FV.gone)))))))], []))
  (callB (rec 22 [OV.flat (FV.val (PV.int .i64 (3 : Int)))]) fun r4 => needB (okOs Go.Proofs.Tryd.prog [23] [] (Prod.fst r4)) <|
  callB (rec 23 [OV.flat (FV.val (PV.agg [PV.int .i64 a4, PV.int .i64 a5, PV.str a6]))]) fun r5 => needB (okOs Go.Proofs.Tryd.prog [29, 42] [.o, .v] (Prod.fst r5)) <|
  callB (rec 10 [OV.flat (FV.val (PV.agg [PV.int .i64 (3 : Int), PV.int .i64 a0, PV.str ([] : List UInt8), PV.str ([] : List UInt8), PV.int .i64 (0 : Int), PV.int .i64 (0 : Int), PV.str ([] : List UInt8), PV.sl (some 8) [PV.agg [PV.int .i64 (2 : Int), PV.int .i64 (0 : Int), PV.str ([] : List UInt8), PV.str ([] : List UInt8), PV.int .i64 (PV.toI (List.headD (PV.cells (FV.pv (OV.fv (List.headD (Prod.fst r4) (OV.flat FV.gone))))) PV.undef)), PV.int .i64 (PV.toI (List.headD (List.tail (PV.cells (FV.pv (OV.fv (List.headD (Prod.fst r4) (OV.flat FV.gone)))))) PV.undef)), PV.str (PV.toS (List.headD (List.tail (List.tail (PV.cells (FV.pv (OV.fv (List.headD (Prod.fst r4) (OV.flat FV.gone))))))) PV.undef)), PV.sl (some 8) []], PV.agg [PV.int .i64 (1 : Int), PV.int .i64 (0 : Int), PV.str ([] : List UInt8), PV.str ([] : List UInt8), PV.int .i64 a1, PV.int .i64 a2, PV.str a3, PV.sl (some 8) []]]])), OV.flat (FV.val (PV.int .i64 (3 : Int)))]) fun r6 => needB (okOs Go.Proofs.Tryd.prog [31] [.a [true, true, false]] (Prod.fst r6)) <|
  callB (rec 18 [OV.flat (FV.val (PV.agg [PV.sl none (FV.xs (List.headD (OV.cells (List.headD (Prod.fst r6) (OV.flat FV.gone))) FV.gone)), PV.sl none (FV.xs (List.headD (List.tail (OV.cells (List.headD (Prod.fst r6) (OV.flat FV.gone)))) FV.gone)), PV.bool (PV.toB (FV.pv (List.headD (List.tail (List.tail (OV.cells (List.headD (Prod.fst r6) (OV.flat FV.gone))))) FV.gone)))])), OV.flat (FV.val (PV.sl none (FV.xs (OV.fv (List.headD (Prod.fst r5) (OV.flat FV.gone))))))]) fun r7 => needB (okOs Go.Proofs.Tryd.prog [4] [] (Prod.fst r7)) <|
  callB (rec 24 [OV.flat (FV.val (PV.agg [PV.int .i64 a4, PV.int .i64 a5, PV.str a6])), OV.flat (FV.val (PV.agg [PV.int .i64 a1, PV.int .i64 a2, PV.str a3]))]) fun r8 => needB (okOs Go.Proofs.Tryd.prog [3] [] (Prod.fst r8)) <|
  ifB (a0 == (5 : Int))
  (ifB (PV.toB (FV.pv (OV.fv (List.headD (Prod.fst r1) (OV.flat FV.gone)))))
  (ifB (PV.toI (FV.pv (OV.fv (List.headD (List.tail (Prod.fst r5)) (OV.flat FV.gone)))) == (0 : Int))
  (some ([OV.flat (FV.val (PV.bool ((PV.toB (FV.pv (OV.fv (List.headD (Prod.fst r7) (OV.flat FV.gone))))) == (decide (PV.toI (FV.pv (OV.fv (List.headD (Prod.fst r8) (OV.flat FV.gone)))) < (0 : Int))))))], []))
  (some ([OV.flat (FV.val (PV.bool false))], [])))
  (some ([OV.flat (FV.val (PV.bool false))], [])))
  (ifB (a0 == (6 : Int))
  (ifB (PV.toB (FV.pv (OV.fv (List.headD (Prod.fst r1) (OV.flat FV.gone)))))
  (ifB (PV.toI (FV.pv (OV.fv (List.headD (List.tail (Prod.fst r5)) (OV.flat FV.gone)))) == (0 : Int))
  (some ([OV.flat (FV.val (PV.bool ((PV.toB (FV.pv (OV.fv (List.headD (Prod.fst r7) (OV.flat FV.gone))))) == (decide (PV.toI (FV.pv (OV.fv (List.headD (Prod.fst r8) (OV.flat FV.gone)))) ≤ (0 : Int))))))], []))
  (some ([OV.flat (FV.val (PV.bool false))], [])))
  (some ([OV.flat (FV.val (PV.bool false))], [])))
  (ifB (a0 == (7 : Int))
  (ifB (PV.toB (FV.pv (OV.fv (List.headD (Prod.fst r1) (OV.flat FV.gone)))))
  (ifB (PV.toI (FV.pv (OV.fv (List.headD (List.tail (Prod.fst r5)) (OV.flat FV.gone)))) == (0 : Int))
  (some ([OV.flat (FV.val (PV.bool ((PV.toB (FV.pv (OV.fv (List.headD (Prod.fst r7) (OV.flat FV.gone))))) == (decide (PV.toI (FV.pv (OV.fv (List.headD (Prod.fst r8) (OV.flat FV.gone)))) > (0 : Int))))))], []))
  (some ([OV.flat (FV.val (PV.bool false))], [])))
  (some ([OV.flat (FV.val (PV.bool false))], [])))
  (ifB (a0 == (8 : Int))
  (ifB (PV.toB (FV.pv (OV.fv (List.headD (Prod.fst r1) (OV.flat FV.gone)))))
  (ifB (PV.toI (FV.pv (OV.fv (List.headD (List.tail (Prod.fst r5)) (OV.flat FV.gone)))) == (0 : Int))
  (some ([OV.flat (FV.val (PV.bool ((PV.toB (FV.pv (OV.fv (List.headD (Prod.fst r7) (OV.flat FV.gone))))) == (decide (PV.toI (FV.pv (OV.fv (List.headD (Prod.fst r8) (OV.flat FV.gone)))) ≥ (0 : Int))))))], []))
  (some ([OV.flat (FV.val (PV.bool false))], [])))
  (some ([OV.flat (FV.val (PV.bool false))], [])))
  (ifB (PV.toB (FV.pv (OV.fv (List.headD (Prod.fst r1) (OV.flat FV.gone)))))
  (ifB (PV.toI (FV.pv (OV.fv (List.headD (List.tail (Prod.fst r5)) (OV.flat FV.gone)))) == (0 : Int))
  (some ([OV.flat (FV.val (PV.bool ((PV.toB (FV.pv (OV.fv (List.headD (Prod.fst r7) (OV.flat FV.gone))))) == (PV.toI (FV.pv (OV.fv (List.headD (Prod.fst r8) (OV.flat FV.gone)))) == (0 : Int)))))], []))
  (some ([OV.flat (FV.val (PV.bool false))], [])))
  (some ([OV.flat (FV.val (PV.bool false))], []))))))))))))

theorem f6_vestrylaw15_PlanPoints_eq (rec : Rec) (n : Nat) (a0 : Int) (a1 : Int) (a2 : Int) (a3 : List UInt8) (a4 : Int) (a5 : Int) (a6 : List UInt8) : callBody C rec n 6 [OV.flat (FV.val (PV.int .i64 a0)), OV.flat (FV.val (PV.agg [PV.int .i64 a1, PV.int .i64 a2, PV.str a3])), OV.flat (FV.val (PV.agg [PV.int .i64 a4, PV.int .i64 a5, PV.str a6]))] = f6_vestrylaw15_PlanPoints rec n a0 a1 a2 a3 a4 a5 a6 := by kernel_rfl

noncomputable def f7_vestrylaw15_PlanMisses (rec : Rec) (n : Nat) (a0 : Int) (a1 : Int) (a2 : List UInt8) (a3 : List UInt8) (a4 : Int) (a5 : Int) (a6 : List UInt8) (a7 : List PV) (a8 : List PV) (a9 : Int) : Option (List OV × List OV) :=
  callB (rec 8 []) fun r1 => needB (okOs Go.Proofs.Tryd.prog [4] [] (Prod.fst r1)) <|
  callB (rec 9 [OV.flat (FV.val (PV.agg [PV.int .i64 a0, PV.int .i64 a1, PV.str a2, PV.str a3, PV.int .i64 a4, PV.int .i64 a5, PV.str a6, PV.sl (some 8) a7])), OV.flat (FV.val (PV.int .i64 (12 : Int)))]) fun r2 => needB (okOs Go.Proofs.Tryd.prog [4] [] (Prod.fst r2)) <|
  ifB (!(PV.toB (FV.pv (OV.fv (List.headD (Prod.fst r2) (OV.flat FV.gone))))))
  (some ([OV.flat (FV.val (PV.bool (PV.toB (FV.pv (OV.fv (List.headD (Prod.fst r1) (OV.flat FV.gone)))))))], []))
  (ifB (decide (a9 < (0 : Int)))
  (some ([OV.flat (FV.val (PV.bool (PV.toB (FV.pv (OV.fv (List.headD (Prod.fst r1) (OV.flat FV.gone)))))))], []))
  (ifB (decide (a9 ≥ ((List.length a8 : Nat) : Int)))
  (some ([OV.flat (FV.val (PV.bool (PV.toB (FV.pv (OV.fv (List.headD (Prod.fst r1) (OV.flat FV.gone)))))))], []))
  (callB (rec 25 [OV.flat (FV.val (PV.agg [PV.int .i64 a0, PV.int .i64 a1, PV.str a2, PV.str a3, PV.int .i64 a4, PV.int .i64 a5, PV.str a6, PV.sl (some 8) a7])), OV.flat (FV.val (PV.sl (some 3) a8))]) fun r3 => needB (okOs Go.Proofs.Tryd.prog [4, 42] [] (Prod.fst r3)) <|
  needB (decide ((0 : Int) ≤ a9)) <|
  needB (decide (a9 < ((List.length a8 : Nat) : Int))) <|
  needB (hasT Go.Proofs.Tryd.prog 23 (nthP a8 (Int.toNat a9))) <|
  callB (rec 23 [OV.flat (FV.val (PV.agg [PV.int .i64 (PV.toI (List.headD (PV.cells (nthP a8 (Int.toNat a9))) PV.undef)), PV.int .i64 (PV.toI (List.headD (List.tail (PV.cells (nthP a8 (Int.toNat a9)))) PV.undef)), PV.str (PV.toS (List.headD (List.tail (List.tail (PV.cells (nthP a8 (Int.toNat a9))))) PV.undef))]))]) fun r4 => needB (okOs Go.Proofs.Tryd.prog [29, 42] [.o, .v] (Prod.fst r4)) <|
  ifB (PV.toI (FV.pv (OV.fv (List.headD (List.tail (Prod.fst r3)) (OV.flat FV.gone)))) != (0 : Int))
  (some ([OV.flat (FV.val (PV.bool (PV.toB (FV.pv (OV.fv (List.headD (Prod.fst r1) (OV.flat FV.gone)))))))], []))
  (ifB (!(PV.toB (FV.pv (OV.fv (List.headD (Prod.fst r3) (OV.flat FV.gone))))))
  (some ([OV.flat (FV.val (PV.bool (PV.toB (FV.pv (OV.fv (List.headD (Prod.fst r1) (OV.flat FV.gone)))))))], []))
  (ifB (PV.toI (FV.pv (OV.fv (List.headD (List.tail (Prod.fst r4)) (OV.flat FV.gone)))) != (0 : Int))
  (some ([OV.flat (FV.val (PV.bool (PV.toB (FV.pv (OV.fv (List.headD (Prod.fst r1) (OV.flat FV.gone)))))))], []))
  (ifB (PV.toB (FV.pv (OV.fv (List.headD (Prod.fst r1) (OV.flat FV.gone)))))
  (callB (rec 10 [OV.flat (FV.val (PV.agg [PV.int .i64 a0, PV.int .i64 a1, PV.str a2, PV.str a3, PV.int .i64 a4, PV.int .i64 a5, PV.str a6, PV.sl (some 8) a7])), OV.flat (FV.val (PV.int .i64 a9))]) fun r5 => needB (okOs Go.Proofs.Tryd.prog [31] [.a [true, true, false]] (Prod.fst r5)) <|
  callB (rec 18 [OV.flat (FV.val (PV.agg [PV.sl none (FV.xs (List.headD (OV.cells (List.headD (Prod.fst r5) (OV.flat FV.gone))) FV.gone)), PV.sl none (FV.xs (List.headD (List.tail (OV.cells (List.headD (Prod.fst r5) (OV.flat FV.gone)))) FV.gone)), PV.bool (PV.toB (FV.pv (List.headD (List.tail (List.tail (OV.cells (List.headD (Prod.fst r5) (OV.flat FV.gone))))) FV.gone)))])), OV.flat (FV.val (PV.sl none (FV.xs (OV.fv (List.headD (Prod.fst r4) (OV.flat FV.gone))))))]) fun r6 => needB (okOs Go.Proofs.Tryd.prog [4] [] (Prod.fst r6)) <|
  some ([OV.flat (FV.val (PV.bool (PV.toB (FV.pv (OV.fv (List.headD (Prod.fst r6) (OV.flat FV.gone)))))))], []))
  (some ([OV.flat (FV.val (PV.bool false))], []))))))))

theorem f7_vestrylaw15_PlanMisses_eq (rec : Rec) (n : Nat) (a0 : Int) (a1 : Int) (a2 : List UInt8) (a3 : List UInt8) (a4 : Int) (a5 : Int) (a6 : List UInt8) (a7 : List PV) (a8 : List PV) (a9 : Int) : callBody C rec n 7 [OV.flat (FV.val (PV.agg [PV.int .i64 a0, PV.int .i64 a1, PV.str a2, PV.str a3, PV.int .i64 a4, PV.int .i64 a5, PV.str a6, PV.sl (some 8) a7])), OV.flat (FV.val (PV.sl (some 3) a8)), OV.flat (FV.val (PV.int .i64 a9))] = f7_vestrylaw15_PlanMisses rec n a0 a1 a2 a3 a4 a5 a6 a7 a8 a9 := by kernel_rfl

noncomputable def f8_vestrylaw15_small (rec : Rec) (n : Nat)  : Option (List OV × List OV) :=
  callB (rec 22 [OV.flat (FV.val (PV.int .i64 (0 : Int)))]) fun r1 => needB (okOs Go.Proofs.Tryd.prog [23] [] (Prod.fst r1)) <|
  callB (rec 22 [OV.flat (FV.val (PV.int .i64 (5 : Int)))]) fun r2 => needB (okOs Go.Proofs.Tryd.prog [23] [] (Prod.fst r2)) <|
  callB (rec 10 [OV.flat (FV.val (PV.agg [PV.int .i64 (3 : Int), PV.int .i64 (3 : Int), PV.str ([] : List UInt8), PV.str ([] : List UInt8), PV.int .i64 (0 : Int), PV.int .i64 (0 : Int), PV.str ([] : List UInt8), PV.sl (some 8) [PV.agg [PV.int .i64 (2 : Int), PV.int .i64 (0 : Int), PV.str ([] : List UInt8), PV.str ([] : List UInt8), PV.int .i64 (PV.toI (List.headD (PV.cells (FV.pv (OV.fv (List.headD (Prod.fst r1) (OV.flat FV.gone))))) PV.undef)), PV.int .i64 (PV.toI (List.headD (List.tail (PV.cells (FV.pv (OV.fv (List.headD (Prod.fst r1) (OV.flat FV.gone)))))) PV.undef)), PV.str (PV.toS (List.headD (List.tail (List.tail (PV.cells (FV.pv (OV.fv (List.headD (Prod.fst r1) (OV.flat FV.gone))))))) PV.undef)), PV.sl (some 8) []], PV.agg [PV.int .i64 (1 : Int), PV.int .i64 (0 : Int), PV.str ([] : List UInt8), PV.str ([] : List UInt8), PV.int .i64 (PV.toI (List.headD (PV.cells (FV.pv (OV.fv (List.headD (Prod.fst r2) (OV.flat FV.gone))))) PV.undef)), PV.int .i64 (PV.toI (List.headD (List.tail (PV.cells (FV.pv (OV.fv (List.headD (Prod.fst r2) (OV.flat FV.gone)))))) PV.undef)), PV.str (PV.toS (List.headD (List.tail (List.tail (PV.cells (FV.pv (OV.fv (List.headD (Prod.fst r2) (OV.flat FV.gone))))))) PV.undef)), PV.sl (some 8) []]]])), OV.flat (FV.val (PV.int .i64 (0 : Int)))]) fun r3 => needB (okOs Go.Proofs.Tryd.prog [31] [.a [true, true, false]] (Prod.fst r3)) <|
  callB (rec 22 [OV.flat (FV.val (PV.int .i64 (5 : Int)))]) fun r4 => needB (okOs Go.Proofs.Tryd.prog [23] [] (Prod.fst r4)) <|
  callB (rec 23 [OV.flat (FV.val (PV.agg [PV.int .i64 (PV.toI (List.headD (PV.cells (FV.pv (OV.fv (List.headD (Prod.fst r4) (OV.flat FV.gone))))) PV.undef)), PV.int .i64 (PV.toI (List.headD (List.tail (PV.cells (FV.pv (OV.fv (List.headD (Prod.fst r4) (OV.flat FV.gone)))))) PV.undef)), PV.str (PV.toS (List.headD (List.tail (List.tail (PV.cells (FV.pv (OV.fv (List.headD (Prod.fst r4) (OV.flat FV.gone))))))) PV.undef))]))]) fun r5 => needB (okOs Go.Proofs.Tryd.prog [29, 42] [.o, .v] (Prod.fst r5)) <|
  callB (rec 10 [OV.flat (FV.val (PV.agg [PV.int .i64 (3 : Int), PV.int .i64 (5 : Int), PV.str ([] : List UInt8), PV.str ([] : List UInt8), PV.int .i64 (0 : Int), PV.int .i64 (0 : Int), PV.str ([] : List UInt8), PV.sl (some 8) [PV.agg [PV.int .i64 (2 : Int), PV.int .i64 (0 : Int), PV.str ([] : List UInt8), PV.str ([] : List UInt8), PV.int .i64 (PV.toI (List.headD (PV.cells (FV.pv (OV.fv (List.headD (Prod.fst r1) (OV.flat FV.gone))))) PV.undef)), PV.int .i64 (PV.toI (List.headD (List.tail (PV.cells (FV.pv (OV.fv (List.headD (Prod.fst r1) (OV.flat FV.gone)))))) PV.undef)), PV.str (PV.toS (List.headD (List.tail (List.tail (PV.cells (FV.pv (OV.fv (List.headD (Prod.fst r1) (OV.flat FV.gone))))))) PV.undef)), PV.sl (some 8) []], PV.agg [PV.int .i64 (1 : Int), PV.int .i64 (0 : Int), PV.str ([] : List UInt8), PV.str ([] : List UInt8), PV.int .i64 (0 : Int), PV.int .i64 (0 : Int), PV.str ([] : List UInt8), PV.sl (some 8) []]]])), OV.flat (FV.val (PV.int .i64 (0 : Int)))]) fun r6 => needB (okOs Go.Proofs.Tryd.prog [31] [.a [true, true, false]] (Prod.fst r6)) <|
  ifB (PV.toI (FV.pv (OV.fv (List.headD (List.tail (Prod.fst r5)) (OV.flat FV.gone)))) == (0 : Int))
  (ifB (PV.toB (FV.pv (List.headD (List.tail (List.tail (OV.cells (List.headD (Prod.fst r3) (OV.flat FV.gone))))) FV.gone)))
  (needB (List.all (FV.xs (List.headD (OV.cells (List.headD (Prod.fst r3) (OV.flat FV.gone))) FV.gone)) isByte) <|
  needB (List.all (FV.xs (OV.fv (List.headD (Prod.fst r5) (OV.flat FV.gone)))) isByte) <|
  ifB ((List.map u8Of (FV.xs (List.headD (OV.cells (List.headD (Prod.fst r3) (OV.flat FV.gone))) FV.gone))) == (List.map u8Of (FV.xs (OV.fv (List.headD (Prod.fst r5) (OV.flat FV.gone))))))
  (needB (List.all (FV.xs (List.headD (List.tail (OV.cells (List.headD (Prod.fst r3) (OV.flat FV.gone)))) FV.gone)) isByte) <|
  needB (List.all (FV.xs (OV.fv (List.headD (Prod.fst r5) (OV.flat FV.gone)))) isByte) <|
  needB (Nat.ble (List.length (List.map u8Of (FV.xs (OV.fv (List.headD (Prod.fst r5) (OV.flat FV.gone))))) + List.length ([0] : List UInt8)) 9223372036854775807) <|
  ifB ((List.map u8Of (FV.xs (List.headD (List.tail (OV.cells (List.headD (Prod.fst r3) (OV.flat FV.gone)))) FV.gone))) == ((List.map u8Of (FV.xs (OV.fv (List.headD (Prod.fst r5) (OV.flat FV.gone))))) ++ ([0] : List UInt8)))
  (callB (rec 20 []) fun r7 => needB (okOs Go.Proofs.Tryd.prog [31] [.a [true, true, false]] (Prod.fst r7)) <|
  callB (rec 11 [OV.flat (FV.val (PV.agg [PV.sl none (FV.xs (List.headD (OV.cells (List.headD (Prod.fst r6) (OV.flat FV.gone))) FV.gone)), PV.sl none (FV.xs (List.headD (List.tail (OV.cells (List.headD (Prod.fst r6) (OV.flat FV.gone)))) FV.gone)), PV.bool (PV.toB (FV.pv (List.headD (List.tail (List.tail (OV.cells (List.headD (Prod.fst r6) (OV.flat FV.gone))))) FV.gone)))])), OV.flat (FV.val (PV.agg [PV.sl none (FV.xs (List.headD (OV.cells (List.headD (Prod.fst r7) (OV.flat FV.gone))) FV.gone)), PV.sl none (FV.xs (List.headD (List.tail (OV.cells (List.headD (Prod.fst r7) (OV.flat FV.gone)))) FV.gone)), PV.bool (PV.toB (FV.pv (List.headD (List.tail (List.tail (OV.cells (List.headD (Prod.fst r7) (OV.flat FV.gone))))) FV.gone)))]))]) fun r8 => needB (okOs Go.Proofs.Tryd.prog [4] [] (Prod.fst r8)) <|
  ifB (PV.toB (FV.pv (OV.fv (List.headD (Prod.fst r8) (OV.flat FV.gone)))))
  (callB (rec 19 []) fun r9 => needB (okOs Go.Proofs.Tryd.prog [31] [.a [true, true, false]] (Prod.fst r9)) <|
  ifB (!(PV.toB (FV.pv (List.headD (List.tail (List.tail (OV.cells (List.headD (Prod.fst r9) (OV.flat FV.gone))))) FV.gone))))
  (callB (rec 20 []) fun r10 => needB (okOs Go.Proofs.Tryd.prog [31] [.a [true, true, false]] (Prod.fst r10)) <|
  some ([OV.flat (FV.val (PV.bool (PV.toB (FV.pv (List.headD (List.tail (List.tail (OV.cells (List.headD (Prod.fst r10) (OV.flat FV.gone))))) FV.gone)))))], []))
  (some ([OV.flat (FV.val (PV.bool false))], [])))
  (some ([OV.flat (FV.val (PV.bool false))], [])))
  (some ([OV.flat (FV.val (PV.bool false))], [])))
  (some ([OV.flat (FV.val (PV.bool false))], [])))
  (some ([OV.flat (FV.val (PV.bool false))], [])))
  (some ([OV.flat (FV.val (PV.bool false))], []))

theorem f8_vestrylaw15_small_eq (rec : Rec) (n : Nat)  : callBody C rec n 8 [] = f8_vestrylaw15_small rec n  := by kernel_rfl

noncomputable def f9_vestrylaw15_few.l0.step (rec : Rec) (n : Nat) (self_l0 : Int → Int → Int → List UInt8 → List UInt8 → Int → Int → List UInt8 → List PV → Int → Option (List OV × List OV)) (x0 : Int) (x1 : Int) (x2 : Int) (x3 : List UInt8) (x4 : List UInt8) (x5 : Int) (x6 : Int) (x7 : List UInt8) (x8 : List PV) (x9 : Int) : Option (List OV × List OV) :=
  ifB (decide (x9 < ((List.length x8 : Nat) : Int)))
  (needB (decide ((0 : Int) ≤ x9)) <|
  needB (decide (x9 < ((List.length x8 : Nat) : Int))) <|
  needB (hasT Go.Proofs.Tryd.prog 26 (nthP x8 (Int.toNat x9))) <|
  callB (rec 9 [OV.flat (FV.val (PV.agg [PV.int .i64 (PV.toI (List.headD (PV.cells (nthP x8 (Int.toNat x9))) PV.undef)), PV.int .i64 (PV.toI (List.headD (List.tail (PV.cells (nthP x8 (Int.toNat x9)))) PV.undef)), PV.str (PV.toS (List.headD (List.tail (List.tail (PV.cells (nthP x8 (Int.toNat x9))))) PV.undef)), PV.str (PV.toS (List.headD (List.tail (List.tail (List.tail (PV.cells (nthP x8 (Int.toNat x9)))))) PV.undef)), PV.int .i64 (PV.toI (List.headD (List.tail (List.tail (List.tail (List.tail (PV.cells (nthP x8 (Int.toNat x9))))))) PV.undef)), PV.int .i64 (PV.toI (List.headD (List.tail (List.tail (List.tail (List.tail (List.tail (PV.cells (nthP x8 (Int.toNat x9)))))))) PV.undef)), PV.str (PV.toS (List.headD (List.tail (List.tail (List.tail (List.tail (List.tail (List.tail (PV.cells (nthP x8 (Int.toNat x9))))))))) PV.undef)), PV.sl (some 8) (PV.toL (List.headD (List.tail (List.tail (List.tail (List.tail (List.tail (List.tail (List.tail (PV.cells (nthP x8 (Int.toNat x9)))))))))) PV.undef))])), OV.flat (FV.val (PV.int .i64 (IntKind.wrap .i64 (x0 - (1 : Int)))))]) fun r1 => needB (okOs Go.Proofs.Tryd.prog [4] [] (Prod.fst r1)) <|
  ifB (!(PV.toB (FV.pv (OV.fv (List.headD (Prod.fst r1) (OV.flat FV.gone))))))
  (some ([OV.flat (FV.val (PV.bool false))], []))
  (self_l0 x0 x1 x2 x3 x4 x5 x6 x7 x8 (IntKind.wrap .i64 (x9 + (1 : Int)))))
  (some ([OV.flat (FV.val (PV.bool true))], []))

noncomputable def f9_vestrylaw15_few.l0 (rec : Rec) (n : Nat) : Nat → Int → Int → Int → List UInt8 → List UInt8 → Int → Int → List UInt8 → List PV → Int → Option (List OV × List OV)
  | 0, _, _, _, _, _, _, _, _, _, _ => none
  | m + 1, x0, x1, x2, x3, x4, x5, x6, x7, x8, x9 => f9_vestrylaw15_few.l0.step rec n (f9_vestrylaw15_few.l0 rec n m) x0 x1 x2 x3 x4 x5 x6 x7 x8 x9

theorem f9_vestrylaw15_few.l0_eq (rec : Rec) (n : Nat) : ∀ (m : Nat) (x0 : Int) (x1 : Int) (x2 : Int) (x3 : List UInt8) (x4 : List UInt8) (x5 : Int) (x6 : Int) (x7 : List UInt8) (x8 : List PV) (x9 : Int), loopAt C rec n 9 [1, 1, 0, 1, 0] [] m [(1, SV.home (OV.flat (FV.val (PV.int .i64 x0)))), (2, SV.home (OV.cont .box [FV.val (PV.int .i64 x1), FV.val (PV.int .i64 x2), FV.val (PV.str x3), FV.val (PV.str x4), FV.val (PV.int .i64 x5), FV.val (PV.int .i64 x6), FV.val (PV.str x7), FV.val (PV.sl (some 8) x8)])), (5, SV.home (OV.flat (FV.val (PV.int .i64 x9))))] = f9_vestrylaw15_few.l0 rec n m x0 x1 x2 x3 x4 x5 x6 x7 x8 x9
  | 0, x0, x1, x2, x3, x4, x5, x6, x7, x8, x9 => by kernel_rfl
  | m + 1, x0, x1, x2, x3, x4, x5, x6, x7, x8, x9 => by
    have ih : (fun x0 x1 x2 x3 x4 x5 x6 x7 x8 x9 => loopAt C rec n 9 [1, 1, 0, 1, 0] [] m [(1, SV.home (OV.flat (FV.val (PV.int .i64 x0)))), (2, SV.home (OV.cont .box [FV.val (PV.int .i64 x1), FV.val (PV.int .i64 x2), FV.val (PV.str x3), FV.val (PV.str x4), FV.val (PV.int .i64 x5), FV.val (PV.int .i64 x6), FV.val (PV.str x7), FV.val (PV.sl (some 8) x8)])), (5, SV.home (OV.flat (FV.val (PV.int .i64 x9))))]) = f9_vestrylaw15_few.l0 rec n m := funext fun x0 => funext fun x1 => funext fun x2 => funext fun x3 => funext fun x4 => funext fun x5 => funext fun x6 => funext fun x7 => funext fun x8 => funext fun x9 => f9_vestrylaw15_few.l0_eq rec n m x0 x1 x2 x3 x4 x5 x6 x7 x8 x9
    exact (show loopAt C rec n 9 [1, 1, 0, 1, 0] [] (m + 1) [(1, SV.home (OV.flat (FV.val (PV.int .i64 x0)))), (2, SV.home (OV.cont .box [FV.val (PV.int .i64 x1), FV.val (PV.int .i64 x2), FV.val (PV.str x3), FV.val (PV.str x4), FV.val (PV.int .i64 x5), FV.val (PV.int .i64 x6), FV.val (PV.str x7), FV.val (PV.sl (some 8) x8)])), (5, SV.home (OV.flat (FV.val (PV.int .i64 x9))))] = f9_vestrylaw15_few.l0.step rec n (fun x0 x1 x2 x3 x4 x5 x6 x7 x8 x9 => loopAt C rec n 9 [1, 1, 0, 1, 0] [] m [(1, SV.home (OV.flat (FV.val (PV.int .i64 x0)))), (2, SV.home (OV.cont .box [FV.val (PV.int .i64 x1), FV.val (PV.int .i64 x2), FV.val (PV.str x3), FV.val (PV.str x4), FV.val (PV.int .i64 x5), FV.val (PV.int .i64 x6), FV.val (PV.str x7), FV.val (PV.sl (some 8) x8)])), (5, SV.home (OV.flat (FV.val (PV.int .i64 x9))))]) x0 x1 x2 x3 x4 x5 x6 x7 x8 x9 from by kernel_rfl).trans (by rw [ih]; rfl)

noncomputable def f9_vestrylaw15_few.pre (rec : Rec) (n : Nat) (l0 : Int → Int → Int → List UInt8 → List UInt8 → Int → Int → List UInt8 → List PV → Int → Option (List OV × List OV)) (a0 : Int) (a1 : Int) (a2 : List UInt8) (a3 : List UInt8) (a4 : Int) (a5 : Int) (a6 : List UInt8) (a7 : List PV) (a8 : Int) : Option (List OV × List OV) :=
  ifB (a8 == (0 : Int))
  (some ([OV.flat (FV.val (PV.bool false))], []))
  (ifB (decide (((List.length a7 : Nat) : Int) > (3 : Int)))
  (some ([OV.flat (FV.val (PV.bool false))], []))
  (l0 a8 a0 a1 a2 a3 a4 a5 a6 a7 (0 : Int)))

noncomputable def f9_vestrylaw15_few (rec : Rec) (n : Nat) (a0 : Int) (a1 : Int) (a2 : List UInt8) (a3 : List UInt8) (a4 : Int) (a5 : Int) (a6 : List UInt8) (a7 : List PV) (a8 : Int) : Option (List OV × List OV) := f9_vestrylaw15_few.pre rec n (f9_vestrylaw15_few.l0 rec n n) a0 a1 a2 a3 a4 a5 a6 a7 a8

theorem f9_vestrylaw15_few_eq (rec : Rec) (n : Nat) (a0 : Int) (a1 : Int) (a2 : List UInt8) (a3 : List UInt8) (a4 : Int) (a5 : Int) (a6 : List UInt8) (a7 : List PV) (a8 : Int) : callBody C rec n 9 [OV.flat (FV.val (PV.agg [PV.int .i64 a0, PV.int .i64 a1, PV.str a2, PV.str a3, PV.int .i64 a4, PV.int .i64 a5, PV.str a6, PV.sl (some 8) a7])), OV.flat (FV.val (PV.int .i64 a8))] = f9_vestrylaw15_few rec n a0 a1 a2 a3 a4 a5 a6 a7 a8 := by
  have i0 : (fun x0 x1 x2 x3 x4 x5 x6 x7 x8 x9 => loopAt C rec n 9 [1, 1, 0, 1, 0] [] n [(1, SV.home (OV.flat (FV.val (PV.int .i64 x0)))), (2, SV.home (OV.cont .box [FV.val (PV.int .i64 x1), FV.val (PV.int .i64 x2), FV.val (PV.str x3), FV.val (PV.str x4), FV.val (PV.int .i64 x5), FV.val (PV.int .i64 x6), FV.val (PV.str x7), FV.val (PV.sl (some 8) x8)])), (5, SV.home (OV.flat (FV.val (PV.int .i64 x9))))]) = f9_vestrylaw15_few.l0 rec n n := funext fun x0 => funext fun x1 => funext fun x2 => funext fun x3 => funext fun x4 => funext fun x5 => funext fun x6 => funext fun x7 => funext fun x8 => funext fun x9 => f9_vestrylaw15_few.l0_eq rec n n x0 x1 x2 x3 x4 x5 x6 x7 x8 x9
  exact (show callBody C rec n 9 [OV.flat (FV.val (PV.agg [PV.int .i64 a0, PV.int .i64 a1, PV.str a2, PV.str a3, PV.int .i64 a4, PV.int .i64 a5, PV.str a6, PV.sl (some 8) a7])), OV.flat (FV.val (PV.int .i64 a8))] = f9_vestrylaw15_few.pre rec n (fun x0 x1 x2 x3 x4 x5 x6 x7 x8 x9 => loopAt C rec n 9 [1, 1, 0, 1, 0] [] n [(1, SV.home (OV.flat (FV.val (PV.int .i64 x0)))), (2, SV.home (OV.cont .box [FV.val (PV.int .i64 x1), FV.val (PV.int .i64 x2), FV.val (PV.str x3), FV.val (PV.str x4), FV.val (PV.int .i64 x5), FV.val (PV.int .i64 x6), FV.val (PV.str x7), FV.val (PV.sl (some 8) x8)])), (5, SV.home (OV.flat (FV.val (PV.int .i64 x9))))]) a0 a1 a2 a3 a4 a5 a6 a7 a8 from by kernel_rfl).trans (by rw [i0]; rfl)

noncomputable def f10_plan_Span (rec : Rec) (n : Nat) (a0 : Int) (a1 : Int) (a2 : List UInt8) (a3 : List UInt8) (a4 : Int) (a5 : Int) (a6 : List UInt8) (a7 : List PV) (a8 : Int) : Option (List OV × List OV) :=
  ifB (a0 != (3 : Int))
  (callB (rec 19 []) fun r1 => needB (okOs Go.Proofs.Tryd.prog [31] [.a [true, true, false]] (Prod.fst r1)) <|
  some ([OV.cont .agg [FV.own none (FV.xs (List.headD (OV.cells (List.headD (Prod.fst r1) (OV.flat FV.gone))) FV.gone)) [], FV.own none (FV.xs (List.headD (List.tail (OV.cells (List.headD (Prod.fst r1) (OV.flat FV.gone)))) FV.gone)) [], FV.val (PV.bool (PV.toB (FV.pv (List.headD (List.tail (List.tail (OV.cells (List.headD (Prod.fst r1) (OV.flat FV.gone))))) FV.gone))))]], []))
  (ifB (((List.length a7 : Nat) : Int) != (2 : Int))
  (callB (rec 19 []) fun r2 => needB (okOs Go.Proofs.Tryd.prog [31] [.a [true, true, false]] (Prod.fst r2)) <|
  some ([OV.cont .agg [FV.own none (FV.xs (List.headD (OV.cells (List.headD (Prod.fst r2) (OV.flat FV.gone))) FV.gone)) [], FV.own none (FV.xs (List.headD (List.tail (OV.cells (List.headD (Prod.fst r2) (OV.flat FV.gone)))) FV.gone)) [], FV.val (PV.bool (PV.toB (FV.pv (List.headD (List.tail (List.tail (OV.cells (List.headD (Prod.fst r2) (OV.flat FV.gone))))) FV.gone))))]], []))
  (needB (decide ((0 : Int) < ((List.length a7 : Nat) : Int))) <|
  needB (hasT Go.Proofs.Tryd.prog 26 (nthP a7 0)) <|
  needB (decide ((1 : Int) < ((List.length a7 : Nat) : Int))) <|
  needB (hasT Go.Proofs.Tryd.prog 26 (nthP a7 1)) <|
  ifB (a1 == (2 : Int))
  (needB (hasT Go.Proofs.Tryd.prog 3 (PV.int .i64 a8)) <|
  callB (rec 10 [OV.flat (FV.val (PV.agg [PV.int .i64 (PV.toI (List.headD (PV.cells (nthP a7 0)) PV.undef)), PV.int .i64 (PV.toI (List.headD (List.tail (PV.cells (nthP a7 0))) PV.undef)), PV.str (PV.toS (List.headD (List.tail (List.tail (PV.cells (nthP a7 0)))) PV.undef)), PV.str (PV.toS (List.headD (List.tail (List.tail (List.tail (PV.cells (nthP a7 0))))) PV.undef)), PV.int .i64 (PV.toI (List.headD (List.tail (List.tail (List.tail (List.tail (PV.cells (nthP a7 0)))))) PV.undef)), PV.int .i64 (PV.toI (List.headD (List.tail (List.tail (List.tail (List.tail (List.tail (PV.cells (nthP a7 0))))))) PV.undef)), PV.str (PV.toS (List.headD (List.tail (List.tail (List.tail (List.tail (List.tail (List.tail (PV.cells (nthP a7 0)))))))) PV.undef)), PV.sl (some 8) (PV.toL (List.headD (List.tail (List.tail (List.tail (List.tail (List.tail (List.tail (List.tail (PV.cells (nthP a7 0))))))))) PV.undef))])), OV.flat (FV.val (PV.int .i64 (PV.toI (PV.int .i64 a8))))]) fun r3 => needB (okOs Go.Proofs.Tryd.prog [31] [.a [true, true, false]] (Prod.fst r3)) <|
  needB (hasT Go.Proofs.Tryd.prog 3 (PV.int .i64 a8)) <|
  callB (rec 10 [OV.flat (FV.val (PV.agg [PV.int .i64 (PV.toI (List.headD (PV.cells (nthP a7 1)) PV.undef)), PV.int .i64 (PV.toI (List.headD (List.tail (PV.cells (nthP a7 1))) PV.undef)), PV.str (PV.toS (List.headD (List.tail (List.tail (PV.cells (nthP a7 1)))) PV.undef)), PV.str (PV.toS (List.headD (List.tail (List.tail (List.tail (PV.cells (nthP a7 1))))) PV.undef)), PV.int .i64 (PV.toI (List.headD (List.tail (List.tail (List.tail (List.tail (PV.cells (nthP a7 1)))))) PV.undef)), PV.int .i64 (PV.toI (List.headD (List.tail (List.tail (List.tail (List.tail (List.tail (PV.cells (nthP a7 1))))))) PV.undef)), PV.str (PV.toS (List.headD (List.tail (List.tail (List.tail (List.tail (List.tail (List.tail (PV.cells (nthP a7 1)))))))) PV.undef)), PV.sl (some 8) (PV.toL (List.headD (List.tail (List.tail (List.tail (List.tail (List.tail (List.tail (List.tail (PV.cells (nthP a7 1))))))))) PV.undef))])), OV.flat (FV.val (PV.int .i64 (PV.toI (PV.int .i64 a8))))]) fun r4 => needB (okOs Go.Proofs.Tryd.prog [31] [.a [true, true, false]] (Prod.fst r4)) <|
  callB (rec 15 [OV.flat (FV.val (PV.agg [PV.sl none (FV.xs (List.headD (OV.cells (List.headD (Prod.fst r3) (OV.flat FV.gone))) FV.gone)), PV.sl none (FV.xs (List.headD (List.tail (OV.cells (List.headD (Prod.fst r3) (OV.flat FV.gone)))) FV.gone)), PV.bool (PV.toB (FV.pv (List.headD (List.tail (List.tail (OV.cells (List.headD (Prod.fst r3) (OV.flat FV.gone))))) FV.gone)))])), OV.flat (FV.val (PV.agg [PV.sl none (FV.xs (List.headD (OV.cells (List.headD (Prod.fst r4) (OV.flat FV.gone))) FV.gone)), PV.sl none (FV.xs (List.headD (List.tail (OV.cells (List.headD (Prod.fst r4) (OV.flat FV.gone)))) FV.gone)), PV.bool (PV.toB (FV.pv (List.headD (List.tail (List.tail (OV.cells (List.headD (Prod.fst r4) (OV.flat FV.gone))))) FV.gone)))]))]) fun r5 => needB (okOs Go.Proofs.Tryd.prog [31] [.a [true, true, false]] (Prod.fst r5)) <|
  some ([OV.cont .agg [FV.own none (FV.xs (List.headD (OV.cells (List.headD (Prod.fst r5) (OV.flat FV.gone))) FV.gone)) [], FV.own none (FV.xs (List.headD (List.tail (OV.cells (List.headD (Prod.fst r5) (OV.flat FV.gone)))) FV.gone)) [], FV.val (PV.bool (PV.toB (FV.pv (List.headD (List.tail (List.tail (OV.cells (List.headD (Prod.fst r5) (OV.flat FV.gone))))) FV.gone))))]], []))
  (ifB (decide (a1 < (3 : Int)))
  (callB (rec 19 []) fun r6 => needB (okOs Go.Proofs.Tryd.prog [31] [.a [true, true, false]] (Prod.fst r6)) <|
  some ([OV.cont .agg [FV.own none (FV.xs (List.headD (OV.cells (List.headD (Prod.fst r6) (OV.flat FV.gone))) FV.gone)) [], FV.own none (FV.xs (List.headD (List.tail (OV.cells (List.headD (Prod.fst r6) (OV.flat FV.gone)))) FV.gone)) [], FV.val (PV.bool (PV.toB (FV.pv (List.headD (List.tail (List.tail (OV.cells (List.headD (Prod.fst r6) (OV.flat FV.gone))))) FV.gone))))]], []))
  (ifB (decide (a1 > (8 : Int)))
  (callB (rec 19 []) fun r7 => needB (okOs Go.Proofs.Tryd.prog [31] [.a [true, true, false]] (Prod.fst r7)) <|
  some ([OV.cont .agg [FV.own none (FV.xs (List.headD (OV.cells (List.headD (Prod.fst r7) (OV.flat FV.gone))) FV.gone)) [], FV.own none (FV.xs (List.headD (List.tail (OV.cells (List.headD (Prod.fst r7) (OV.flat FV.gone)))) FV.gone)) [], FV.val (PV.bool (PV.toB (FV.pv (List.headD (List.tail (List.tail (OV.cells (List.headD (Prod.fst r7) (OV.flat FV.gone))))) FV.gone))))]], []))
  (ifB (a1 == (4 : Int))
  (callB (rec 19 []) fun r8 => needB (okOs Go.Proofs.Tryd.prog [31] [.a [true, true, false]] (Prod.fst r8)) <|
  some ([OV.cont .agg [FV.own none (FV.xs (List.headD (OV.cells (List.headD (Prod.fst r8) (OV.flat FV.gone))) FV.gone)) [], FV.own none (FV.xs (List.headD (List.tail (OV.cells (List.headD (Prod.fst r8) (OV.flat FV.gone)))) FV.gone)) [], FV.val (PV.bool (PV.toB (FV.pv (List.headD (List.tail (List.tail (OV.cells (List.headD (Prod.fst r8) (OV.flat FV.gone))))) FV.gone))))]], []))
  (callB (rec 26 [OV.flat (FV.val (PV.agg [PV.int .i64 (PV.toI (List.headD (PV.cells (nthP a7 0)) PV.undef)), PV.int .i64 (PV.toI (List.headD (List.tail (PV.cells (nthP a7 0))) PV.undef)), PV.str (PV.toS (List.headD (List.tail (List.tail (PV.cells (nthP a7 0)))) PV.undef)), PV.str (PV.toS (List.headD (List.tail (List.tail (List.tail (PV.cells (nthP a7 0))))) PV.undef)), PV.int .i64 (PV.toI (List.headD (List.tail (List.tail (List.tail (List.tail (PV.cells (nthP a7 0)))))) PV.undef)), PV.int .i64 (PV.toI (List.headD (List.tail (List.tail (List.tail (List.tail (List.tail (PV.cells (nthP a7 0))))))) PV.undef)), PV.str (PV.toS (List.headD (List.tail (List.tail (List.tail (List.tail (List.tail (List.tail (PV.cells (nthP a7 0)))))))) PV.undef)), PV.sl (some 8) (PV.toL (List.headD (List.tail (List.tail (List.tail (List.tail (List.tail (List.tail (List.tail (PV.cells (nthP a7 0))))))))) PV.undef))])), OV.flat (FV.val (PV.agg [PV.int .i64 (PV.toI (List.headD (PV.cells (nthP a7 1)) PV.undef)), PV.int .i64 (PV.toI (List.headD (List.tail (PV.cells (nthP a7 1))) PV.undef)), PV.str (PV.toS (List.headD (List.tail (List.tail (PV.cells (nthP a7 1)))) PV.undef)), PV.str (PV.toS (List.headD (List.tail (List.tail (List.tail (PV.cells (nthP a7 1))))) PV.undef)), PV.int .i64 (PV.toI (List.headD (List.tail (List.tail (List.tail (List.tail (PV.cells (nthP a7 1)))))) PV.undef)), PV.int .i64 (PV.toI (List.headD (List.tail (List.tail (List.tail (List.tail (List.tail (PV.cells (nthP a7 1))))))) PV.undef)), PV.str (PV.toS (List.headD (List.tail (List.tail (List.tail (List.tail (List.tail (List.tail (PV.cells (nthP a7 1)))))))) PV.undef)), PV.sl (some 8) (PV.toL (List.headD (List.tail (List.tail (List.tail (List.tail (List.tail (List.tail (List.tail (PV.cells (nthP a7 1))))))))) PV.undef))])), OV.flat (FV.val (PV.ptr (some 1) (PV.agg [PV.int .i64 a8])))]) fun r9 => needB (okOs Go.Proofs.Tryd.prog [4] [] (Prod.fst r9)) <|
  ifB (PV.toB (FV.pv (OV.fv (List.headD (Prod.fst r9) (OV.flat FV.gone)))))
  (callB (rec 27 [OV.flat (FV.val (PV.int .i64 a1)), OV.flat (FV.val (PV.agg [PV.int .i64 (PV.toI (List.headD (List.tail (List.tail (List.tail (List.tail (PV.cells (nthP a7 1)))))) PV.undef)), PV.int .i64 (PV.toI (List.headD (List.tail (List.tail (List.tail (List.tail (List.tail (PV.cells (nthP a7 1))))))) PV.undef)), PV.str (PV.toS (List.headD (List.tail (List.tail (List.tail (List.tail (List.tail (List.tail (PV.cells (nthP a7 1)))))))) PV.undef))]))]) fun r10 => needB (okOs Go.Proofs.Tryd.prog [31] [.a [true, true, false]] (Prod.fst r10)) <|
  some ([OV.cont .agg [FV.own none (FV.xs (List.headD (OV.cells (List.headD (Prod.fst r10) (OV.flat FV.gone))) FV.gone)) [], FV.own none (FV.xs (List.headD (List.tail (OV.cells (List.headD (Prod.fst r10) (OV.flat FV.gone)))) FV.gone)) [], FV.val (PV.bool (PV.toB (FV.pv (List.headD (List.tail (List.tail (OV.cells (List.headD (Prod.fst r10) (OV.flat FV.gone))))) FV.gone))))]], []))
  (callB (rec 26 [OV.flat (FV.val (PV.agg [PV.int .i64 (PV.toI (List.headD (PV.cells (nthP a7 1)) PV.undef)), PV.int .i64 (PV.toI (List.headD (List.tail (PV.cells (nthP a7 1))) PV.undef)), PV.str (PV.toS (List.headD (List.tail (List.tail (PV.cells (nthP a7 1)))) PV.undef)), PV.str (PV.toS (List.headD (List.tail (List.tail (List.tail (PV.cells (nthP a7 1))))) PV.undef)), PV.int .i64 (PV.toI (List.headD (List.tail (List.tail (List.tail (List.tail (PV.cells (nthP a7 1)))))) PV.undef)), PV.int .i64 (PV.toI (List.headD (List.tail (List.tail (List.tail (List.tail (List.tail (PV.cells (nthP a7 1))))))) PV.undef)), PV.str (PV.toS (List.headD (List.tail (List.tail (List.tail (List.tail (List.tail (List.tail (PV.cells (nthP a7 1)))))))) PV.undef)), PV.sl (some 8) (PV.toL (List.headD (List.tail (List.tail (List.tail (List.tail (List.tail (List.tail (List.tail (PV.cells (nthP a7 1))))))))) PV.undef))])), OV.flat (FV.val (PV.agg [PV.int .i64 (PV.toI (List.headD (PV.cells (nthP a7 0)) PV.undef)), PV.int .i64 (PV.toI (List.headD (List.tail (PV.cells (nthP a7 0))) PV.undef)), PV.str (PV.toS (List.headD (List.tail (List.tail (PV.cells (nthP a7 0)))) PV.undef)), PV.str (PV.toS (List.headD (List.tail (List.tail (List.tail (PV.cells (nthP a7 0))))) PV.undef)), PV.int .i64 (PV.toI (List.headD (List.tail (List.tail (List.tail (List.tail (PV.cells (nthP a7 0)))))) PV.undef)), PV.int .i64 (PV.toI (List.headD (List.tail (List.tail (List.tail (List.tail (List.tail (PV.cells (nthP a7 0))))))) PV.undef)), PV.str (PV.toS (List.headD (List.tail (List.tail (List.tail (List.tail (List.tail (List.tail (PV.cells (nthP a7 0)))))))) PV.undef)), PV.sl (some 8) (PV.toL (List.headD (List.tail (List.tail (List.tail (List.tail (List.tail (List.tail (List.tail (PV.cells (nthP a7 0))))))))) PV.undef))])), OV.flat (FV.val (PV.ptr (some 1) (PV.agg [PV.int .i64 a8])))]) fun r11 => needB (okOs Go.Proofs.Tryd.prog [4] [] (Prod.fst r11)) <|
  ifB (PV.toB (FV.pv (OV.fv (List.headD (Prod.fst r11) (OV.flat FV.gone)))))
  (callB (rec 28 [OV.flat (FV.val (PV.int .i64 a1))]) fun r12 => needB (okOs Go.Proofs.Tryd.prog [3] [] (Prod.fst r12)) <|
  callB (rec 27 [OV.flat (FV.val (PV.int .i64 (PV.toI (FV.pv (OV.fv (List.headD (Prod.fst r12) (OV.flat FV.gone))))))), OV.flat (FV.val (PV.agg [PV.int .i64 (PV.toI (List.headD (List.tail (List.tail (List.tail (List.tail (PV.cells (nthP a7 0)))))) PV.undef)), PV.int .i64 (PV.toI (List.headD (List.tail (List.tail (List.tail (List.tail (List.tail (PV.cells (nthP a7 0))))))) PV.undef)), PV.str (PV.toS (List.headD (List.tail (List.tail (List.tail (List.tail (List.tail (List.tail (PV.cells (nthP a7 0)))))))) PV.undef))]))]) fun r13 => needB (okOs Go.Proofs.Tryd.prog [31] [.a [true, true, false]] (Prod.fst r13)) <|
  some ([OV.cont .agg [FV.own none (FV.xs (List.headD (OV.cells (List.headD (Prod.fst r13) (OV.flat FV.gone))) FV.gone)) [], FV.own none (FV.xs (List.headD (List.tail (OV.cells (List.headD (Prod.fst r13) (OV.flat FV.gone)))) FV.gone)) [], FV.val (PV.bool (PV.toB (FV.pv (List.headD (List.tail (List.tail (OV.cells (List.headD (Prod.fst r13) (OV.flat FV.gone))))) FV.gone))))]], []))
  (callB (rec 19 []) fun r14 => needB (okOs Go.Proofs.Tryd.prog [31] [.a [true, true, false]] (Prod.fst r14)) <|
  some ([OV.cont .agg [FV.own none (FV.xs (List.headD (OV.cells (List.headD (Prod.fst r14) (OV.flat FV.gone))) FV.gone)) [], FV.own none (FV.xs (List.headD (List.tail (OV.cells (List.headD (Prod.fst r14) (OV.flat FV.gone)))) FV.gone)) [], FV.val (PV.bool (PV.toB (FV.pv (List.headD (List.tail (List.tail (OV.cells (List.headD (Prod.fst r14) (OV.flat FV.gone))))) FV.gone))))]], [])))))))))

theorem f10_plan_Span_eq (rec : Rec) (n : Nat) (a0 : Int) (a1 : Int) (a2 : List UInt8) (a3 : List UInt8) (a4 : Int) (a5 : Int) (a6 : List UInt8) (a7 : List PV) (a8 : Int) : callBody C rec n 10 [OV.flat (FV.val (PV.agg [PV.int .i64 a0, PV.int .i64 a1, PV.str a2, PV.str a3, PV.int .i64 a4, PV.int .i64 a5, PV.str a6, PV.sl (some 8) a7])), OV.flat (FV.val (PV.int .i64 a8))] = f10_plan_Span rec n a0 a1 a2 a3 a4 a5 a6 a7 a8 := by kernel_rfl

noncomputable def f11_vestryref15_Same (rec : Rec) (n : Nat) (a0 : List PV) (a1 : List PV) (a2 : Bool) (a3 : List PV) (a4 : List PV) (a5 : Bool) : Option (List OV × List OV) :=
  needB (List.all a0 isByte) <|
  needB (List.all a3 isByte) <|
  ifB ((List.map u8Of a0) == (List.map u8Of a3))
  (needB (List.all a1 isByte) <|
  needB (List.all a4 isByte) <|
  ifB ((List.map u8Of a1) == (List.map u8Of a4))
  (some ([OV.flat (FV.val (PV.bool (a2 == a5)))], []))
  (some ([OV.flat (FV.val (PV.bool false))], [])))
  (some ([OV.flat (FV.val (PV.bool false))], []))

theorem f11_vestryref15_Same_eq (rec : Rec) (n : Nat) (a0 : List PV) (a1 : List PV) (a2 : Bool) (a3 : List PV) (a4 : List PV) (a5 : Bool) : callBody C rec n 11 [OV.flat (FV.val (PV.agg [PV.sl none a0, PV.sl none a1, PV.bool a2])), OV.flat (FV.val (PV.agg [PV.sl none a3, PV.sl none a4, PV.bool a5]))] = f11_vestryref15_Same rec n a0 a1 a2 a3 a4 a5 := by kernel_rfl

noncomputable def f12_vestryref15_Span (rec : Rec) (n : Nat) (a0 : Int) (a1 : Int) (a2 : List UInt8) (a3 : List UInt8) (a4 : Int) (a5 : Int) (a6 : List UInt8) (a7 : List PV) (a8 : Int) : Option (List OV × List OV) :=
  ifB (a0 != (3 : Int))
  (some ([OV.cont .agg [FV.own none [] [], FV.own none [] [], FV.val (PV.bool false)]], []))
  (ifB (((List.length a7 : Nat) : Int) != (2 : Int))
  (some ([OV.cont .agg [FV.own none [] [], FV.own none [] [], FV.val (PV.bool false)]], []))
  (ifB (a1 == (2 : Int))
  (needB (decide ((0 : Int) < ((List.length a7 : Nat) : Int))) <|
  needB (hasT Go.Proofs.Tryd.prog 26 (nthP a7 0)) <|
  callB (rec 12 [OV.flat (FV.val (PV.agg [PV.int .i64 (PV.toI (List.headD (PV.cells (nthP a7 0)) PV.undef)), PV.int .i64 (PV.toI (List.headD (List.tail (PV.cells (nthP a7 0))) PV.undef)), PV.str (PV.toS (List.headD (List.tail (List.tail (PV.cells (nthP a7 0)))) PV.undef)), PV.str (PV.toS (List.headD (List.tail (List.tail (List.tail (PV.cells (nthP a7 0))))) PV.undef)), PV.int .i64 (PV.toI (List.headD (List.tail (List.tail (List.tail (List.tail (PV.cells (nthP a7 0)))))) PV.undef)), PV.int .i64 (PV.toI (List.headD (List.tail (List.tail (List.tail (List.tail (List.tail (PV.cells (nthP a7 0))))))) PV.undef)), PV.str (PV.toS (List.headD (List.tail (List.tail (List.tail (List.tail (List.tail (List.tail (PV.cells (nthP a7 0)))))))) PV.undef)), PV.sl (some 8) (PV.toL (List.headD (List.tail (List.tail (List.tail (List.tail (List.tail (List.tail (List.tail (PV.cells (nthP a7 0))))))))) PV.undef))])), OV.flat (FV.val (PV.int .i64 a8))]) fun r1 => needB (okOs Go.Proofs.Tryd.prog [31] [] (Prod.fst r1)) <|
  needB (decide ((1 : Int) < ((List.length a7 : Nat) : Int))) <|
  needB (hasT Go.Proofs.Tryd.prog 26 (nthP a7 1)) <|
  callB (rec 12 [OV.flat (FV.val (PV.agg [PV.int .i64 (PV.toI (List.headD (PV.cells (nthP a7 1)) PV.undef)), PV.int .i64 (PV.toI (List.headD (List.tail (PV.cells (nthP a7 1))) PV.undef)), PV.str (PV.toS (List.headD (List.tail (List.tail (PV.cells (nthP a7 1)))) PV.undef)), PV.str (PV.toS (List.headD (List.tail (List.tail (List.tail (PV.cells (nthP a7 1))))) PV.undef)), PV.int .i64 (PV.toI (List.headD (List.tail (List.tail (List.tail (List.tail (PV.cells (nthP a7 1)))))) PV.undef)), PV.int .i64 (PV.toI (List.headD (List.tail (List.tail (List.tail (List.tail (List.tail (PV.cells (nthP a7 1))))))) PV.undef)), PV.str (PV.toS (List.headD (List.tail (List.tail (List.tail (List.tail (List.tail (List.tail (PV.cells (nthP a7 1)))))))) PV.undef)), PV.sl (some 8) (PV.toL (List.headD (List.tail (List.tail (List.tail (List.tail (List.tail (List.tail (List.tail (PV.cells (nthP a7 1))))))))) PV.undef))])), OV.flat (FV.val (PV.int .i64 a8))]) fun r2 => needB (okOs Go.Proofs.Tryd.prog [31] [] (Prod.fst r2)) <|
  callB (rec 16 [OV.flat (FV.val (PV.agg [PV.sl none (PV.toL (List.headD (PV.cells (FV.pv (OV.fv (List.headD (Prod.fst r1) (OV.flat FV.gone))))) PV.undef)), PV.sl none (PV.toL (List.headD (List.tail (PV.cells (FV.pv (OV.fv (List.headD (Prod.fst r1) (OV.flat FV.gone)))))) PV.undef)), PV.bool (PV.toB (List.headD (List.tail (List.tail (PV.cells (FV.pv (OV.fv (List.headD (Prod.fst r1) (OV.flat FV.gone))))))) PV.undef))])), OV.flat (FV.val (PV.agg [PV.sl none (PV.toL (List.headD (PV.cells (FV.pv (OV.fv (List.headD (Prod.fst r2) (OV.flat FV.gone))))) PV.undef)), PV.sl none (PV.toL (List.headD (List.tail (PV.cells (FV.pv (OV.fv (List.headD (Prod.fst r2) (OV.flat FV.gone)))))) PV.undef)), PV.bool (PV.toB (List.headD (List.tail (List.tail (PV.cells (FV.pv (OV.fv (List.headD (Prod.fst r2) (OV.flat FV.gone))))))) PV.undef))]))]) fun r3 => needB (okOs Go.Proofs.Tryd.prog [31] [] (Prod.fst r3)) <|
  some ([OV.flat (FV.val (PV.agg [PV.sl none (PV.toL (List.headD (PV.cells (FV.pv (OV.fv (List.headD (Prod.fst r3) (OV.flat FV.gone))))) PV.undef)), PV.sl none (PV.toL (List.headD (List.tail (PV.cells (FV.pv (OV.fv (List.headD (Prod.fst r3) (OV.flat FV.gone)))))) PV.undef)), PV.bool (PV.toB (List.headD (List.tail (List.tail (PV.cells (FV.pv (OV.fv (List.headD (Prod.fst r3) (OV.flat FV.gone))))))) PV.undef))]))], []))
  (ifB (decide (a1 < (3 : Int)))
  (some ([OV.cont .agg [FV.own none [] [], FV.own none [] [], FV.val (PV.bool false)]], []))
  (ifB (decide (a1 > (8 : Int)))
  (some ([OV.cont .agg [FV.own none [] [], FV.own none [] [], FV.val (PV.bool false)]], []))
  (ifB (a1 == (4 : Int))
  (some ([OV.cont .agg [FV.own none [] [], FV.own none [] [], FV.val (PV.bool false)]], []))
  (needB (decide ((0 : Int) < ((List.length a7 : Nat) : Int))) <|
  needB (hasT Go.Proofs.Tryd.prog 26 (nthP a7 0)) <|
  callB (rec 29 [OV.flat (FV.val (PV.agg [PV.int .i64 (PV.toI (List.headD (PV.cells (nthP a7 0)) PV.undef)), PV.int .i64 (PV.toI (List.headD (List.tail (PV.cells (nthP a7 0))) PV.undef)), PV.str (PV.toS (List.headD (List.tail (List.tail (PV.cells (nthP a7 0)))) PV.undef)), PV.str (PV.toS (List.headD (List.tail (List.tail (List.tail (PV.cells (nthP a7 0))))) PV.undef)), PV.int .i64 (PV.toI (List.headD (List.tail (List.tail (List.tail (List.tail (PV.cells (nthP a7 0)))))) PV.undef)), PV.int .i64 (PV.toI (List.headD (List.tail (List.tail (List.tail (List.tail (List.tail (PV.cells (nthP a7 0))))))) PV.undef)), PV.str (PV.toS (List.headD (List.tail (List.tail (List.tail (List.tail (List.tail (List.tail (PV.cells (nthP a7 0)))))))) PV.undef)), PV.sl (some 8) (PV.toL (List.headD (List.tail (List.tail (List.tail (List.tail (List.tail (List.tail (List.tail (PV.cells (nthP a7 0))))))))) PV.undef))])), OV.flat (FV.val (PV.int .i64 a8))]) fun r4 => needB (okOs Go.Proofs.Tryd.prog [4] [] (Prod.fst r4)) <|
  needB (decide ((1 : Int) < ((List.length a7 : Nat) : Int))) <|
  needB (hasT Go.Proofs.Tryd.prog 26 (nthP a7 1)) <|
  callB (rec 29 [OV.flat (FV.val (PV.agg [PV.int .i64 (PV.toI (List.headD (PV.cells (nthP a7 1)) PV.undef)), PV.int .i64 (PV.toI (List.headD (List.tail (PV.cells (nthP a7 1))) PV.undef)), PV.str (PV.toS (List.headD (List.tail (List.tail (PV.cells (nthP a7 1)))) PV.undef)), PV.str (PV.toS (List.headD (List.tail (List.tail (List.tail (PV.cells (nthP a7 1))))) PV.undef)), PV.int .i64 (PV.toI (List.headD (List.tail (List.tail (List.tail (List.tail (PV.cells (nthP a7 1)))))) PV.undef)), PV.int .i64 (PV.toI (List.headD (List.tail (List.tail (List.tail (List.tail (List.tail (PV.cells (nthP a7 1))))))) PV.undef)), PV.str (PV.toS (List.headD (List.tail (List.tail (List.tail (List.tail (List.tail (List.tail (PV.cells (nthP a7 1)))))))) PV.undef)), PV.sl (some 8) (PV.toL (List.headD (List.tail (List.tail (List.tail (List.tail (List.tail (List.tail (List.tail (PV.cells (nthP a7 1))))))))) PV.undef))])), OV.flat (FV.val (PV.int .i64 a8))]) fun r5 => needB (okOs Go.Proofs.Tryd.prog [4] [] (Prod.fst r5)) <|
  needB (decide ((0 : Int) < ((List.length a7 : Nat) : Int))) <|
  needB (hasT Go.Proofs.Tryd.prog 26 (nthP a7 0)) <|
  callB (rec 30 [OV.flat (FV.val (PV.agg [PV.int .i64 (PV.toI (List.headD (PV.cells (nthP a7 0)) PV.undef)), PV.int .i64 (PV.toI (List.headD (List.tail (PV.cells (nthP a7 0))) PV.undef)), PV.str (PV.toS (List.headD (List.tail (List.tail (PV.cells (nthP a7 0)))) PV.undef)), PV.str (PV.toS (List.headD (List.tail (List.tail (List.tail (PV.cells (nthP a7 0))))) PV.undef)), PV.int .i64 (PV.toI (List.headD (List.tail (List.tail (List.tail (List.tail (PV.cells (nthP a7 0)))))) PV.undef)), PV.int .i64 (PV.toI (List.headD (List.tail (List.tail (List.tail (List.tail (List.tail (PV.cells (nthP a7 0))))))) PV.undef)), PV.str (PV.toS (List.headD (List.tail (List.tail (List.tail (List.tail (List.tail (List.tail (PV.cells (nthP a7 0)))))))) PV.undef)), PV.sl (some 8) (PV.toL (List.headD (List.tail (List.tail (List.tail (List.tail (List.tail (List.tail (List.tail (PV.cells (nthP a7 0))))))))) PV.undef))]))]) fun r6 => needB (okOs Go.Proofs.Tryd.prog [4] [] (Prod.fst r6)) <|
  needB (decide ((1 : Int) < ((List.length a7 : Nat) : Int))) <|
  needB (hasT Go.Proofs.Tryd.prog 26 (nthP a7 1)) <|
  callB (rec 30 [OV.flat (FV.val (PV.agg [PV.int .i64 (PV.toI (List.headD (PV.cells (nthP a7 1)) PV.undef)), PV.int .i64 (PV.toI (List.headD (List.tail (PV.cells (nthP a7 1))) PV.undef)), PV.str (PV.toS (List.headD (List.tail (List.tail (PV.cells (nthP a7 1)))) PV.undef)), PV.str (PV.toS (List.headD (List.tail (List.tail (List.tail (PV.cells (nthP a7 1))))) PV.undef)), PV.int .i64 (PV.toI (List.headD (List.tail (List.tail (List.tail (List.tail (PV.cells (nthP a7 1)))))) PV.undef)), PV.int .i64 (PV.toI (List.headD (List.tail (List.tail (List.tail (List.tail (List.tail (PV.cells (nthP a7 1))))))) PV.undef)), PV.str (PV.toS (List.headD (List.tail (List.tail (List.tail (List.tail (List.tail (List.tail (PV.cells (nthP a7 1)))))))) PV.undef)), PV.sl (some 8) (PV.toL (List.headD (List.tail (List.tail (List.tail (List.tail (List.tail (List.tail (List.tail (PV.cells (nthP a7 1))))))))) PV.undef))]))]) fun r7 => needB (okOs Go.Proofs.Tryd.prog [4] [] (Prod.fst r7)) <|
  ifB (PV.toB (FV.pv (OV.fv (List.headD (Prod.fst r4) (OV.flat FV.gone)))))
  (ifB (PV.toB (FV.pv (OV.fv (List.headD (Prod.fst r7) (OV.flat FV.gone)))))
  (needB (decide ((1 : Int) < ((List.length a7 : Nat) : Int))) <|
  needB (hasT Go.Proofs.Tryd.prog 26 (nthP a7 1)) <|
  callB (rec 31 [OV.flat (FV.val (PV.int .i64 a1)), OV.flat (FV.val (PV.agg [PV.int .i64 (PV.toI (List.headD (List.tail (List.tail (List.tail (List.tail (PV.cells (nthP a7 1)))))) PV.undef)), PV.int .i64 (PV.toI (List.headD (List.tail (List.tail (List.tail (List.tail (List.tail (PV.cells (nthP a7 1))))))) PV.undef)), PV.str (PV.toS (List.headD (List.tail (List.tail (List.tail (List.tail (List.tail (List.tail (PV.cells (nthP a7 1)))))))) PV.undef))]))]) fun r8 => needB (okOs Go.Proofs.Tryd.prog [31] [] (Prod.fst r8)) <|
  some ([OV.flat (FV.val (PV.agg [PV.sl none (PV.toL (List.headD (PV.cells (FV.pv (OV.fv (List.headD (Prod.fst r8) (OV.flat FV.gone))))) PV.undef)), PV.sl none (PV.toL (List.headD (List.tail (PV.cells (FV.pv (OV.fv (List.headD (Prod.fst r8) (OV.flat FV.gone)))))) PV.undef)), PV.bool (PV.toB (List.headD (List.tail (List.tail (PV.cells (FV.pv (OV.fv (List.headD (Prod.fst r8) (OV.flat FV.gone))))))) PV.undef))]))], []))
  (ifB (PV.toB (FV.pv (OV.fv (List.headD (Prod.fst r5) (OV.flat FV.gone)))))
  (ifB (PV.toB (FV.pv (OV.fv (List.headD (Prod.fst r6) (OV.flat FV.gone)))))
  (callB (rec 32 [OV.flat (FV.val (PV.int .i64 a1))]) fun r9 => needB (okOs Go.Proofs.Tryd.prog [3] [] (Prod.fst r9)) <|
  needB (decide ((0 : Int) < ((List.length a7 : Nat) : Int))) <|
  needB (hasT Go.Proofs.Tryd.prog 26 (nthP a7 0)) <|
  callB (rec 31 [OV.flat (FV.val (PV.int .i64 (PV.toI (FV.pv (OV.fv (List.headD (Prod.fst r9) (OV.flat FV.gone))))))), OV.flat (FV.val (PV.agg [PV.int .i64 (PV.toI (List.headD (List.tail (List.tail (List.tail (List.tail (PV.cells (nthP a7 0)))))) PV.undef)), PV.int .i64 (PV.toI (List.headD (List.tail (List.tail (List.tail (List.tail (List.tail (PV.cells (nthP a7 0))))))) PV.undef)), PV.str (PV.toS (List.headD (List.tail (List.tail (List.tail (List.tail (List.tail (List.tail (PV.cells (nthP a7 0)))))))) PV.undef))]))]) fun r10 => needB (okOs Go.Proofs.Tryd.prog [31] [] (Prod.fst r10)) <|
  some ([OV.flat (FV.val (PV.agg [PV.sl none (PV.toL (List.headD (PV.cells (FV.pv (OV.fv (List.headD (Prod.fst r10) (OV.flat FV.gone))))) PV.undef)), PV.sl none (PV.toL (List.headD (List.tail (PV.cells (FV.pv (OV.fv (List.headD (Prod.fst r10) (OV.flat FV.gone)))))) PV.undef)), PV.bool (PV.toB (List.headD (List.tail (List.tail (PV.cells (FV.pv (OV.fv (List.headD (Prod.fst r10) (OV.flat FV.gone))))))) PV.undef))]))], []))
  (some ([OV.cont .agg [FV.own none [] [], FV.own none [] [], FV.val (PV.bool false)]], [])))
  (some ([OV.cont .agg [FV.own none [] [], FV.own none [] [], FV.val (PV.bool false)]], []))))
  (ifB (PV.toB (FV.pv (OV.fv (List.headD (Prod.fst r5) (OV.flat FV.gone)))))
  (ifB (PV.toB (FV.pv (OV.fv (List.headD (Prod.fst r6) (OV.flat FV.gone)))))
  (callB (rec 32 [OV.flat (FV.val (PV.int .i64 a1))]) fun r11 => needB (okOs Go.Proofs.Tryd.prog [3] [] (Prod.fst r11)) <|
  needB (decide ((0 : Int) < ((List.length a7 : Nat) : Int))) <|
  needB (hasT Go.Proofs.Tryd.prog 26 (nthP a7 0)) <|
  callB (rec 31 [OV.flat (FV.val (PV.int .i64 (PV.toI (FV.pv (OV.fv (List.headD (Prod.fst r11) (OV.flat FV.gone))))))), OV.flat (FV.val (PV.agg [PV.int .i64 (PV.toI (List.headD (List.tail (List.tail (List.tail (List.tail (PV.cells (nthP a7 0)))))) PV.undef)), PV.int .i64 (PV.toI (List.headD (List.tail (List.tail (List.tail (List.tail (List.tail (PV.cells (nthP a7 0))))))) PV.undef)), PV.str (PV.toS (List.headD (List.tail (List.tail (List.tail (List.tail (List.tail (List.tail (PV.cells (nthP a7 0)))))))) PV.undef))]))]) fun r12 => needB (okOs Go.Proofs.Tryd.prog [31] [] (Prod.fst r12)) <|
  some ([OV.flat (FV.val (PV.agg [PV.sl none (PV.toL (List.headD (PV.cells (FV.pv (OV.fv (List.headD (Prod.fst r12) (OV.flat FV.gone))))) PV.undef)), PV.sl none (PV.toL (List.headD (List.tail (PV.cells (FV.pv (OV.fv (List.headD (Prod.fst r12) (OV.flat FV.gone)))))) PV.undef)), PV.bool (PV.toB (List.headD (List.tail (List.tail (PV.cells (FV.pv (OV.fv (List.headD (Prod.fst r12) (OV.flat FV.gone))))))) PV.undef))]))], []))
  (some ([OV.cont .agg [FV.own none [] [], FV.own none [] [], FV.val (PV.bool false)]], [])))
  (some ([OV.cont .agg [FV.own none [] [], FV.own none [] [], FV.val (PV.bool false)]], [])))))))))

theorem f12_vestryref15_Span_eq (rec : Rec) (n : Nat) (a0 : Int) (a1 : Int) (a2 : List UInt8) (a3 : List UInt8) (a4 : Int) (a5 : Int) (a6 : List UInt8) (a7 : List PV) (a8 : Int) : callBody C rec n 12 [OV.flat (FV.val (PV.agg [PV.int .i64 a0, PV.int .i64 a1, PV.str a2, PV.str a3, PV.int .i64 a4, PV.int .i64 a5, PV.str a6, PV.sl (some 8) a7])), OV.flat (FV.val (PV.int .i64 a8))] = f12_vestryref15_Span rec n a0 a1 a2 a3 a4 a5 a6 a7 a8 := by kernel_rfl

noncomputable def f15_plan_Meet (rec : Rec) (n : Nat) (a0 : List PV) (a1 : List PV) (a2 : Bool) (a3 : List PV) (a4 : List PV) (a5 : Bool) : Option (List OV × List OV) :=
  ifB (a2)
  (callB (rec 33 [OV.flat (FV.val (PV.sl none a3)), OV.flat (FV.val (PV.sl none a0))]) fun r1 => needB (okOs Go.Proofs.Tryd.prog [3] [] (Prod.fst r1)) <|
  ifB (decide (PV.toI (FV.pv (OV.fv (List.headD (Prod.fst r1) (OV.flat FV.gone)))) > (0 : Int)))
  (ifB (a2)
  (ifB (!a5)
  (callB (rec 34 [OV.flat (FV.val (PV.sl none a3))]) fun r2 => needB (okOs Go.Proofs.Tryd.prog [29] [.o] (Prod.fst r2)) <|
  callB (rec 34 [OV.flat (FV.val (PV.sl none a1))]) fun r3 => needB (okOs Go.Proofs.Tryd.prog [29] [.o] (Prod.fst r3)) <|
  some ([OV.cont .agg [FV.own none (FV.xs (OV.fv (List.headD (Prod.fst r2) (OV.flat FV.gone)))) [], FV.own none (FV.xs (OV.fv (List.headD (Prod.fst r3) (OV.flat FV.gone)))) [], FV.val (PV.bool true)]], []))
  (callB (rec 33 [OV.flat (FV.val (PV.sl none a1)), OV.flat (FV.val (PV.sl none a4))]) fun r4 => needB (okOs Go.Proofs.Tryd.prog [3] [] (Prod.fst r4)) <|
  ifB (decide (PV.toI (FV.pv (OV.fv (List.headD (Prod.fst r4) (OV.flat FV.gone)))) ≤ (0 : Int)))
  (callB (rec 34 [OV.flat (FV.val (PV.sl none a3))]) fun r5 => needB (okOs Go.Proofs.Tryd.prog [29] [.o] (Prod.fst r5)) <|
  callB (rec 34 [OV.flat (FV.val (PV.sl none a1))]) fun r6 => needB (okOs Go.Proofs.Tryd.prog [29] [.o] (Prod.fst r6)) <|
  some ([OV.cont .agg [FV.own none (FV.xs (OV.fv (List.headD (Prod.fst r5) (OV.flat FV.gone)))) [], FV.own none (FV.xs (OV.fv (List.headD (Prod.fst r6) (OV.flat FV.gone)))) [], FV.val (PV.bool true)]], []))
  (ifB (a5)
  (callB (rec 34 [OV.flat (FV.val (PV.sl none a3))]) fun r7 => needB (okOs Go.Proofs.Tryd.prog [29] [.o] (Prod.fst r7)) <|
  callB (rec 34 [OV.flat (FV.val (PV.sl none a4))]) fun r8 => needB (okOs Go.Proofs.Tryd.prog [29] [.o] (Prod.fst r8)) <|
  some ([OV.cont .agg [FV.own none (FV.xs (OV.fv (List.headD (Prod.fst r7) (OV.flat FV.gone)))) [], FV.own none (FV.xs (OV.fv (List.headD (Prod.fst r8) (OV.flat FV.gone)))) [], FV.val (PV.bool true)]], []))
  (callB (rec 34 [OV.flat (FV.val (PV.sl none a3))]) fun r9 => needB (okOs Go.Proofs.Tryd.prog [29] [.o] (Prod.fst r9)) <|
  callB (rec 34 [OV.flat (FV.val (PV.sl none []))]) fun r10 => needB (okOs Go.Proofs.Tryd.prog [29] [.o] (Prod.fst r10)) <|
  some ([OV.cont .agg [FV.own none (FV.xs (OV.fv (List.headD (Prod.fst r9) (OV.flat FV.gone)))) [], FV.own none (FV.xs (OV.fv (List.headD (Prod.fst r10) (OV.flat FV.gone)))) [], FV.val (PV.bool true)]], [])))))
  (ifB (a5)
  (callB (rec 34 [OV.flat (FV.val (PV.sl none a3))]) fun r11 => needB (okOs Go.Proofs.Tryd.prog [29] [.o] (Prod.fst r11)) <|
  callB (rec 34 [OV.flat (FV.val (PV.sl none a4))]) fun r12 => needB (okOs Go.Proofs.Tryd.prog [29] [.o] (Prod.fst r12)) <|
  some ([OV.cont .agg [FV.own none (FV.xs (OV.fv (List.headD (Prod.fst r11) (OV.flat FV.gone)))) [], FV.own none (FV.xs (OV.fv (List.headD (Prod.fst r12) (OV.flat FV.gone)))) [], FV.val (PV.bool true)]], []))
  (callB (rec 34 [OV.flat (FV.val (PV.sl none a3))]) fun r13 => needB (okOs Go.Proofs.Tryd.prog [29] [.o] (Prod.fst r13)) <|
  callB (rec 34 [OV.flat (FV.val (PV.sl none []))]) fun r14 => needB (okOs Go.Proofs.Tryd.prog [29] [.o] (Prod.fst r14)) <|
  some ([OV.cont .agg [FV.own none (FV.xs (OV.fv (List.headD (Prod.fst r13) (OV.flat FV.gone)))) [], FV.own none (FV.xs (OV.fv (List.headD (Prod.fst r14) (OV.flat FV.gone)))) [], FV.val (PV.bool true)]], []))))
  (ifB (a2)
  (ifB (!a5)
  (callB (rec 34 [OV.flat (FV.val (PV.sl none a0))]) fun r15 => needB (okOs Go.Proofs.Tryd.prog [29] [.o] (Prod.fst r15)) <|
  callB (rec 34 [OV.flat (FV.val (PV.sl none a1))]) fun r16 => needB (okOs Go.Proofs.Tryd.prog [29] [.o] (Prod.fst r16)) <|
  some ([OV.cont .agg [FV.own none (FV.xs (OV.fv (List.headD (Prod.fst r15) (OV.flat FV.gone)))) [], FV.own none (FV.xs (OV.fv (List.headD (Prod.fst r16) (OV.flat FV.gone)))) [], FV.val (PV.bool true)]], []))
  (callB (rec 33 [OV.flat (FV.val (PV.sl none a1)), OV.flat (FV.val (PV.sl none a4))]) fun r17 => needB (okOs Go.Proofs.Tryd.prog [3] [] (Prod.fst r17)) <|
  ifB (decide (PV.toI (FV.pv (OV.fv (List.headD (Prod.fst r17) (OV.flat FV.gone)))) ≤ (0 : Int)))
  (callB (rec 34 [OV.flat (FV.val (PV.sl none a0))]) fun r18 => needB (okOs Go.Proofs.Tryd.prog [29] [.o] (Prod.fst r18)) <|
  callB (rec 34 [OV.flat (FV.val (PV.sl none a1))]) fun r19 => needB (okOs Go.Proofs.Tryd.prog [29] [.o] (Prod.fst r19)) <|
  some ([OV.cont .agg [FV.own none (FV.xs (OV.fv (List.headD (Prod.fst r18) (OV.flat FV.gone)))) [], FV.own none (FV.xs (OV.fv (List.headD (Prod.fst r19) (OV.flat FV.gone)))) [], FV.val (PV.bool true)]], []))
  (ifB (a5)
  (callB (rec 34 [OV.flat (FV.val (PV.sl none a0))]) fun r20 => needB (okOs Go.Proofs.Tryd.prog [29] [.o] (Prod.fst r20)) <|
  callB (rec 34 [OV.flat (FV.val (PV.sl none a4))]) fun r21 => needB (okOs Go.Proofs.Tryd.prog [29] [.o] (Prod.fst r21)) <|
  some ([OV.cont .agg [FV.own none (FV.xs (OV.fv (List.headD (Prod.fst r20) (OV.flat FV.gone)))) [], FV.own none (FV.xs (OV.fv (List.headD (Prod.fst r21) (OV.flat FV.gone)))) [], FV.val (PV.bool true)]], []))
  (callB (rec 34 [OV.flat (FV.val (PV.sl none a0))]) fun r22 => needB (okOs Go.Proofs.Tryd.prog [29] [.o] (Prod.fst r22)) <|
  callB (rec 34 [OV.flat (FV.val (PV.sl none []))]) fun r23 => needB (okOs Go.Proofs.Tryd.prog [29] [.o] (Prod.fst r23)) <|
  some ([OV.cont .agg [FV.own none (FV.xs (OV.fv (List.headD (Prod.fst r22) (OV.flat FV.gone)))) [], FV.own none (FV.xs (OV.fv (List.headD (Prod.fst r23) (OV.flat FV.gone)))) [], FV.val (PV.bool true)]], [])))))
  (ifB (a5)
  (callB (rec 34 [OV.flat (FV.val (PV.sl none a0))]) fun r24 => needB (okOs Go.Proofs.Tryd.prog [29] [.o] (Prod.fst r24)) <|
  callB (rec 34 [OV.flat (FV.val (PV.sl none a4))]) fun r25 => needB (okOs Go.Proofs.Tryd.prog [29] [.o] (Prod.fst r25)) <|
  some ([OV.cont .agg [FV.own none (FV.xs (OV.fv (List.headD (Prod.fst r24) (OV.flat FV.gone)))) [], FV.own none (FV.xs (OV.fv (List.headD (Prod.fst r25) (OV.flat FV.gone)))) [], FV.val (PV.bool true)]], []))
  (callB (rec 34 [OV.flat (FV.val (PV.sl none a0))]) fun r26 => needB (okOs Go.Proofs.Tryd.prog [29] [.o] (Prod.fst r26)) <|
  callB (rec 34 [OV.flat (FV.val (PV.sl none []))]) fun r27 => needB (okOs Go.Proofs.Tryd.prog [29] [.o] (Prod.fst r27)) <|
  some ([OV.cont .agg [FV.own none (FV.xs (OV.fv (List.headD (Prod.fst r26) (OV.flat FV.gone)))) [], FV.own none (FV.xs (OV.fv (List.headD (Prod.fst r27) (OV.flat FV.gone)))) [], FV.val (PV.bool true)]], [])))))
  (callB (rec 33 [OV.flat (FV.val (PV.sl none a3)), OV.flat (FV.val (PV.sl none a0))]) fun r28 => needB (okOs Go.Proofs.Tryd.prog [3] [] (Prod.fst r28)) <|
  ifB (decide (PV.toI (FV.pv (OV.fv (List.headD (Prod.fst r28) (OV.flat FV.gone)))) > (0 : Int)))
  (ifB (a2)
  (ifB (!a5)
  (callB (rec 34 [OV.flat (FV.val (PV.sl none a3))]) fun r29 => needB (okOs Go.Proofs.Tryd.prog [29] [.o] (Prod.fst r29)) <|
  callB (rec 34 [OV.flat (FV.val (PV.sl none a1))]) fun r30 => needB (okOs Go.Proofs.Tryd.prog [29] [.o] (Prod.fst r30)) <|
  some ([OV.cont .agg [FV.own none (FV.xs (OV.fv (List.headD (Prod.fst r29) (OV.flat FV.gone)))) [], FV.own none (FV.xs (OV.fv (List.headD (Prod.fst r30) (OV.flat FV.gone)))) [], FV.val (PV.bool a5)]], []))
  (callB (rec 33 [OV.flat (FV.val (PV.sl none a1)), OV.flat (FV.val (PV.sl none a4))]) fun r31 => needB (okOs Go.Proofs.Tryd.prog [3] [] (Prod.fst r31)) <|
  ifB (decide (PV.toI (FV.pv (OV.fv (List.headD (Prod.fst r31) (OV.flat FV.gone)))) ≤ (0 : Int)))
  (callB (rec 34 [OV.flat (FV.val (PV.sl none a3))]) fun r32 => needB (okOs Go.Proofs.Tryd.prog [29] [.o] (Prod.fst r32)) <|
  callB (rec 34 [OV.flat (FV.val (PV.sl none a1))]) fun r33 => needB (okOs Go.Proofs.Tryd.prog [29] [.o] (Prod.fst r33)) <|
  some ([OV.cont .agg [FV.own none (FV.xs (OV.fv (List.headD (Prod.fst r32) (OV.flat FV.gone)))) [], FV.own none (FV.xs (OV.fv (List.headD (Prod.fst r33) (OV.flat FV.gone)))) [], FV.val (PV.bool a5)]], []))
  (ifB (a5)
  (callB (rec 34 [OV.flat (FV.val (PV.sl none a3))]) fun r34 => needB (okOs Go.Proofs.Tryd.prog [29] [.o] (Prod.fst r34)) <|
  callB (rec 34 [OV.flat (FV.val (PV.sl none a4))]) fun r35 => needB (okOs Go.Proofs.Tryd.prog [29] [.o] (Prod.fst r35)) <|
  some ([OV.cont .agg [FV.own none (FV.xs (OV.fv (List.headD (Prod.fst r34) (OV.flat FV.gone)))) [], FV.own none (FV.xs (OV.fv (List.headD (Prod.fst r35) (OV.flat FV.gone)))) [], FV.val (PV.bool a5)]], []))
  (callB (rec 34 [OV.flat (FV.val (PV.sl none a3))]) fun r36 => needB (okOs Go.Proofs.Tryd.prog [29] [.o] (Prod.fst r36)) <|
  callB (rec 34 [OV.flat (FV.val (PV.sl none []))]) fun r37 => needB (okOs Go.Proofs.Tryd.prog [29] [.o] (Prod.fst r37)) <|
  some ([OV.cont .agg [FV.own none (FV.xs (OV.fv (List.headD (Prod.fst r36) (OV.flat FV.gone)))) [], FV.own none (FV.xs (OV.fv (List.headD (Prod.fst r37) (OV.flat FV.gone)))) [], FV.val (PV.bool a5)]], [])))))
  (ifB (a5)
  (callB (rec 34 [OV.flat (FV.val (PV.sl none a3))]) fun r38 => needB (okOs Go.Proofs.Tryd.prog [29] [.o] (Prod.fst r38)) <|
  callB (rec 34 [OV.flat (FV.val (PV.sl none a4))]) fun r39 => needB (okOs Go.Proofs.Tryd.prog [29] [.o] (Prod.fst r39)) <|
  some ([OV.cont .agg [FV.own none (FV.xs (OV.fv (List.headD (Prod.fst r38) (OV.flat FV.gone)))) [], FV.own none (FV.xs (OV.fv (List.headD (Prod.fst r39) (OV.flat FV.gone)))) [], FV.val (PV.bool a5)]], []))
  (callB (rec 34 [OV.flat (FV.val (PV.sl none a3))]) fun r40 => needB (okOs Go.Proofs.Tryd.prog [29] [.o] (Prod.fst r40)) <|
  callB (rec 34 [OV.flat (FV.val (PV.sl none []))]) fun r41 => needB (okOs Go.Proofs.Tryd.prog [29] [.o] (Prod.fst r41)) <|
  some ([OV.cont .agg [FV.own none (FV.xs (OV.fv (List.headD (Prod.fst r40) (OV.flat FV.gone)))) [], FV.own none (FV.xs (OV.fv (List.headD (Prod.fst r41) (OV.flat FV.gone)))) [], FV.val (PV.bool a5)]], []))))
  (ifB (a2)
  (ifB (!a5)
  (callB (rec 34 [OV.flat (FV.val (PV.sl none a0))]) fun r42 => needB (okOs Go.Proofs.Tryd.prog [29] [.o] (Prod.fst r42)) <|
  callB (rec 34 [OV.flat (FV.val (PV.sl none a1))]) fun r43 => needB (okOs Go.Proofs.Tryd.prog [29] [.o] (Prod.fst r43)) <|
  some ([OV.cont .agg [FV.own none (FV.xs (OV.fv (List.headD (Prod.fst r42) (OV.flat FV.gone)))) [], FV.own none (FV.xs (OV.fv (List.headD (Prod.fst r43) (OV.flat FV.gone)))) [], FV.val (PV.bool a5)]], []))
  (callB (rec 33 [OV.flat (FV.val (PV.sl none a1)), OV.flat (FV.val (PV.sl none a4))]) fun r44 => needB (okOs Go.Proofs.Tryd.prog [3] [] (Prod.fst r44)) <|
  ifB (decide (PV.toI (FV.pv (OV.fv (List.headD (Prod.fst r44) (OV.flat FV.gone)))) ≤ (0 : Int)))
  (callB (rec 34 [OV.flat (FV.val (PV.sl none a0))]) fun r45 => needB (okOs Go.Proofs.Tryd.prog [29] [.o] (Prod.fst r45)) <|
  callB (rec 34 [OV.flat (FV.val (PV.sl none a1))]) fun r46 => needB (okOs Go.Proofs.Tryd.prog [29] [.o] (Prod.fst r46)) <|
  some ([OV.cont .agg [FV.own none (FV.xs (OV.fv (List.headD (Prod.fst r45) (OV.flat FV.gone)))) [], FV.own none (FV.xs (OV.fv (List.headD (Prod.fst r46) (OV.flat FV.gone)))) [], FV.val (PV.bool a5)]], []))
  (ifB (a5)
  (callB (rec 34 [OV.flat (FV.val (PV.sl none a0))]) fun r47 => needB (okOs Go.Proofs.Tryd.prog [29] [.o] (Prod.fst r47)) <|
  callB (rec 34 [OV.flat (FV.val (PV.sl none a4))]) fun r48 => needB (okOs Go.Proofs.Tryd.prog [29] [.o] (Prod.fst r48)) <|
  some ([OV.cont .agg [FV.own none (FV.xs (OV.fv (List.headD (Prod.fst r47) (OV.flat FV.gone)))) [], FV.own none (FV.xs (OV.fv (List.headD (Prod.fst r48) (OV.flat FV.gone)))) [], FV.val (PV.bool a5)]], []))
  (callB (rec 34 [OV.flat (FV.val (PV.sl none a0))]) fun r49 => needB (okOs Go.Proofs.Tryd.prog [29] [.o] (Prod.fst r49)) <|
  callB (rec 34 [OV.flat (FV.val (PV.sl none []))]) fun r50 => needB (okOs Go.Proofs.Tryd.prog [29] [.o] (Prod.fst r50)) <|
  some ([OV.cont .agg [FV.own none (FV.xs (OV.fv (List.headD (Prod.fst r49) (OV.flat FV.gone)))) [], FV.own none (FV.xs (OV.fv (List.headD (Prod.fst r50) (OV.flat FV.gone)))) [], FV.val (PV.bool a5)]], [])))))
  (ifB (a5)
  (callB (rec 34 [OV.flat (FV.val (PV.sl none a0))]) fun r51 => needB (okOs Go.Proofs.Tryd.prog [29] [.o] (Prod.fst r51)) <|
  callB (rec 34 [OV.flat (FV.val (PV.sl none a4))]) fun r52 => needB (okOs Go.Proofs.Tryd.prog [29] [.o] (Prod.fst r52)) <|
  some ([OV.cont .agg [FV.own none (FV.xs (OV.fv (List.headD (Prod.fst r51) (OV.flat FV.gone)))) [], FV.own none (FV.xs (OV.fv (List.headD (Prod.fst r52) (OV.flat FV.gone)))) [], FV.val (PV.bool a5)]], []))
  (callB (rec 34 [OV.flat (FV.val (PV.sl none a0))]) fun r53 => needB (okOs Go.Proofs.Tryd.prog [29] [.o] (Prod.fst r53)) <|
  callB (rec 34 [OV.flat (FV.val (PV.sl none []))]) fun r54 => needB (okOs Go.Proofs.Tryd.prog [29] [.o] (Prod.fst r54)) <|
  some ([OV.cont .agg [FV.own none (FV.xs (OV.fv (List.headD (Prod.fst r53) (OV.flat FV.gone)))) [], FV.own none (FV.xs (OV.fv (List.headD (Prod.fst r54) (OV.flat FV.gone)))) [], FV.val (PV.bool a5)]], [])))))

theorem f15_plan_Meet_eq (rec : Rec) (n : Nat) (a0 : List PV) (a1 : List PV) (a2 : Bool) (a3 : List PV) (a4 : List PV) (a5 : Bool) : callBody C rec n 15 [OV.flat (FV.val (PV.agg [PV.sl none a0, PV.sl none a1, PV.bool a2])), OV.flat (FV.val (PV.agg [PV.sl none a3, PV.sl none a4, PV.bool a5]))] = f15_plan_Meet rec n a0 a1 a2 a3 a4 a5 := by kernel_rfl

noncomputable def f16_vestryref15_Meet (rec : Rec) (n : Nat) (a0 : List PV) (a1 : List PV) (a2 : Bool) (a3 : List PV) (a4 : List PV) (a5 : Bool) : Option (List OV × List OV) :=
  ifB (a2)
  (needB (List.all a3 isByte) <|
  needB (List.all a0 isByte) <|
  ifB (!((Op.bytesLess (List.map u8Of a3) (List.map u8Of a0)) || (List.map u8Of a3) == (List.map u8Of a0)))
  (ifB (a2)
  (ifB (a5)
  (ifB (!a2)
  (some ([OV.flat (FV.val (PV.agg [PV.sl none a3, PV.sl none a4, PV.bool true]))], []))
  (needB (List.all a4 isByte) <|
  needB (List.all a1 isByte) <|
  ifB (Op.bytesLess (List.map u8Of a4) (List.map u8Of a1))
  (some ([OV.flat (FV.val (PV.agg [PV.sl none a3, PV.sl none a4, PV.bool true]))], []))
  (some ([OV.flat (FV.val (PV.agg [PV.sl none a3, PV.sl none a1, PV.bool true]))], []))))
  (some ([OV.flat (FV.val (PV.agg [PV.sl none a3, PV.sl none a1, PV.bool true]))], [])))
  (ifB (a5)
  (ifB (!a2)
  (some ([OV.flat (FV.val (PV.agg [PV.sl none a3, PV.sl none a4, PV.bool true]))], []))
  (needB (List.all a4 isByte) <|
  needB (List.all a1 isByte) <|
  ifB (Op.bytesLess (List.map u8Of a4) (List.map u8Of a1))
  (some ([OV.flat (FV.val (PV.agg [PV.sl none a3, PV.sl none a4, PV.bool true]))], []))
  (some ([OV.cont .agg [FV.val (PV.sl none a3), FV.own none [] [], FV.val (PV.bool true)]], []))))
  (some ([OV.cont .agg [FV.val (PV.sl none a3), FV.own none [] [], FV.val (PV.bool true)]], []))))
  (ifB (a2)
  (ifB (a5)
  (ifB (!a2)
  (some ([OV.flat (FV.val (PV.agg [PV.sl none a0, PV.sl none a4, PV.bool true]))], []))
  (needB (List.all a4 isByte) <|
  needB (List.all a1 isByte) <|
  ifB (Op.bytesLess (List.map u8Of a4) (List.map u8Of a1))
  (some ([OV.flat (FV.val (PV.agg [PV.sl none a0, PV.sl none a4, PV.bool true]))], []))
  (some ([OV.flat (FV.val (PV.agg [PV.sl none a0, PV.sl none a1, PV.bool true]))], []))))
  (some ([OV.flat (FV.val (PV.agg [PV.sl none a0, PV.sl none a1, PV.bool true]))], [])))
  (ifB (a5)
  (ifB (!a2)
  (some ([OV.flat (FV.val (PV.agg [PV.sl none a0, PV.sl none a4, PV.bool true]))], []))
  (needB (List.all a4 isByte) <|
  needB (List.all a1 isByte) <|
  ifB (Op.bytesLess (List.map u8Of a4) (List.map u8Of a1))
  (some ([OV.flat (FV.val (PV.agg [PV.sl none a0, PV.sl none a4, PV.bool true]))], []))
  (some ([OV.cont .agg [FV.val (PV.sl none a0), FV.own none [] [], FV.val (PV.bool true)]], []))))
  (some ([OV.cont .agg [FV.val (PV.sl none a0), FV.own none [] [], FV.val (PV.bool true)]], [])))))
  (needB (List.all a3 isByte) <|
  needB (List.all a0 isByte) <|
  ifB (!((Op.bytesLess (List.map u8Of a3) (List.map u8Of a0)) || (List.map u8Of a3) == (List.map u8Of a0)))
  (ifB (a2)
  (ifB (a5)
  (ifB (!a2)
  (some ([OV.flat (FV.val (PV.agg [PV.sl none a3, PV.sl none a4, PV.bool a5]))], []))
  (needB (List.all a4 isByte) <|
  needB (List.all a1 isByte) <|
  ifB (Op.bytesLess (List.map u8Of a4) (List.map u8Of a1))
  (some ([OV.flat (FV.val (PV.agg [PV.sl none a3, PV.sl none a4, PV.bool a5]))], []))
  (some ([OV.flat (FV.val (PV.agg [PV.sl none a3, PV.sl none a1, PV.bool a5]))], []))))
  (some ([OV.flat (FV.val (PV.agg [PV.sl none a3, PV.sl none a1, PV.bool a5]))], [])))
  (ifB (a5)
  (ifB (!a2)
  (some ([OV.flat (FV.val (PV.agg [PV.sl none a3, PV.sl none a4, PV.bool a5]))], []))
  (needB (List.all a4 isByte) <|
  needB (List.all a1 isByte) <|
  ifB (Op.bytesLess (List.map u8Of a4) (List.map u8Of a1))
  (some ([OV.flat (FV.val (PV.agg [PV.sl none a3, PV.sl none a4, PV.bool a5]))], []))
  (some ([OV.cont .agg [FV.val (PV.sl none a3), FV.own none [] [], FV.val (PV.bool a5)]], []))))
  (some ([OV.cont .agg [FV.val (PV.sl none a3), FV.own none [] [], FV.val (PV.bool a5)]], []))))
  (ifB (a2)
  (ifB (a5)
  (ifB (!a2)
  (some ([OV.flat (FV.val (PV.agg [PV.sl none a0, PV.sl none a4, PV.bool a5]))], []))
  (needB (List.all a4 isByte) <|
  needB (List.all a1 isByte) <|
  ifB (Op.bytesLess (List.map u8Of a4) (List.map u8Of a1))
  (some ([OV.flat (FV.val (PV.agg [PV.sl none a0, PV.sl none a4, PV.bool a5]))], []))
  (some ([OV.flat (FV.val (PV.agg [PV.sl none a0, PV.sl none a1, PV.bool a5]))], []))))
  (some ([OV.flat (FV.val (PV.agg [PV.sl none a0, PV.sl none a1, PV.bool a5]))], [])))
  (ifB (a5)
  (ifB (!a2)
  (some ([OV.flat (FV.val (PV.agg [PV.sl none a0, PV.sl none a4, PV.bool a5]))], []))
  (needB (List.all a4 isByte) <|
  needB (List.all a1 isByte) <|
  ifB (Op.bytesLess (List.map u8Of a4) (List.map u8Of a1))
  (some ([OV.flat (FV.val (PV.agg [PV.sl none a0, PV.sl none a4, PV.bool a5]))], []))
  (some ([OV.cont .agg [FV.val (PV.sl none a0), FV.own none [] [], FV.val (PV.bool a5)]], []))))
  (some ([OV.cont .agg [FV.val (PV.sl none a0), FV.own none [] [], FV.val (PV.bool a5)]], [])))))

theorem f16_vestryref15_Meet_eq (rec : Rec) (n : Nat) (a0 : List PV) (a1 : List PV) (a2 : Bool) (a3 : List PV) (a4 : List PV) (a5 : Bool) : callBody C rec n 16 [OV.flat (FV.val (PV.agg [PV.sl none a0, PV.sl none a1, PV.bool a2])), OV.flat (FV.val (PV.agg [PV.sl none a3, PV.sl none a4, PV.bool a5]))] = f16_vestryref15_Meet rec n a0 a1 a2 a3 a4 a5 := by kernel_rfl

noncomputable def f18_vestryref14_In (rec : Rec) (n : Nat) (a0 : List PV) (a1 : List PV) (a2 : Bool) (a3 : List PV) : Option (List OV × List OV) :=
  needB (List.all a3 isByte) <|
  needB (List.all a0 isByte) <|
  ifB (!(Op.bytesLess (List.map u8Of a3) (List.map u8Of a0)))
  (ifB (!a2)
  (some ([OV.flat (FV.val (PV.bool true))], []))
  (needB (List.all a3 isByte) <|
  needB (List.all a1 isByte) <|
  some ([OV.flat (FV.val (PV.bool (Op.bytesLess (List.map u8Of a3) (List.map u8Of a1))))], [])))
  (some ([OV.flat (FV.val (PV.bool false))], []))

theorem f18_vestryref14_In_eq (rec : Rec) (n : Nat) (a0 : List PV) (a1 : List PV) (a2 : Bool) (a3 : List PV) : callBody C rec n 18 [OV.flat (FV.val (PV.agg [PV.sl none a0, PV.sl none a1, PV.bool a2])), OV.flat (FV.val (PV.sl none a3))] = f18_vestryref14_In rec n a0 a1 a2 a3 := by kernel_rfl

noncomputable def f19_plan_All (rec : Rec) (n : Nat)  : Option (List OV × List OV) :=
  some ([OV.cont .agg [FV.own none [] [], FV.own none [] [], FV.val (PV.bool false)]], [])

theorem f19_plan_All_eq (rec : Rec) (n : Nat)  : callBody C rec n 19 [] = f19_plan_All rec n  := by kernel_rfl

noncomputable def f20_plan_None (rec : Rec) (n : Nat)  : Option (List OV × List OV) :=
  some ([OV.cont .agg [FV.own none [] [], FV.own none [] [], FV.val (PV.bool true)]], [])

theorem f20_plan_None_eq (rec : Rec) (n : Nat)  : callBody C rec n 20 [] = f20_plan_None rec n  := by kernel_rfl

noncomputable def f21_value_Right (rec : Rec) (n : Nat) (a0 : Int) (a1 : Int) (a2 : List UInt8) : Option (List OV × List OV) :=
  ifB (decide (a0 < (0 : Int)))
  (some ([OV.flat (FV.val (PV.int .i64 (4 : Int)))], []))
  (ifB (decide (a0 > (2 : Int)))
  (some ([OV.flat (FV.val (PV.int .i64 (4 : Int)))], []))
  (callB (rec 35 [OV.flat (FV.val (PV.agg [PV.int .i64 a0, PV.int .i64 a1, PV.str a2]))]) fun r1 => needB (okOs Go.Proofs.Tryd.prog [23] [] (Prod.fst r1)) <|
  ifB (!((a0 == (PV.toI (List.headD (PV.cells (FV.pv (OV.fv (List.headD (Prod.fst r1) (OV.flat FV.gone))))) PV.undef))) && ((a1 == (PV.toI (List.headD (List.tail (PV.cells (FV.pv (OV.fv (List.headD (Prod.fst r1) (OV.flat FV.gone)))))) PV.undef))) && ((a2 == (PV.toS (List.headD (List.tail (List.tail (PV.cells (FV.pv (OV.fv (List.headD (Prod.fst r1) (OV.flat FV.gone))))))) PV.undef))) && (true)))))
  (some ([OV.flat (FV.val (PV.int .i64 (4 : Int)))], []))
  (ifB (decide (((List.length a2 : Nat) : Int) > (40 : Int)))
  (some ([OV.flat (FV.val (PV.int .i64 (2 : Int)))], []))
  (some ([OV.flat (FV.val (PV.int .i64 (0 : Int)))], [])))))

theorem f21_value_Right_eq (rec : Rec) (n : Nat) (a0 : Int) (a1 : Int) (a2 : List UInt8) : callBody C rec n 21 [OV.flat (FV.val (PV.agg [PV.int .i64 a0, PV.int .i64 a1, PV.str a2]))] = f21_value_Right rec n a0 a1 a2 := by kernel_rfl

noncomputable def f22_vestrylaw07_Num (rec : Rec) (n : Nat) (a0 : Int) : Option (List OV × List OV) :=
  some ([OV.flat (FV.val (PV.agg [PV.int .i64 (1 : Int), PV.int .i64 a0, PV.str ([] : List UInt8)]))], [])

theorem f22_vestrylaw07_Num_eq (rec : Rec) (n : Nat) (a0 : Int) : callBody C rec n 22 [OV.flat (FV.val (PV.int .i64 a0))] = f22_vestrylaw07_Num rec n a0 := by kernel_rfl

noncomputable def f23_value_Key (rec : Rec) (n : Nat) (a0 : Int) (a1 : Int) (a2 : List UInt8) : Option (List OV × List OV) :=
  callB (rec 21 [OV.flat (FV.val (PV.agg [PV.int .i64 a0, PV.int .i64 a1, PV.str a2]))]) fun r1 => needB (okOs Go.Proofs.Tryd.prog [42] [] (Prod.fst r1)) <|
  ifB (PV.toI (FV.pv (OV.fv (List.headD (Prod.fst r1) (OV.flat FV.gone)))) != (0 : Int))
  (some ([OV.flat (FV.own none [] []), OV.flat (FV.val (PV.int .i64 (PV.toI (FV.pv (OV.fv (List.headD (Prod.fst r1) (OV.flat FV.gone)))))))], []))
  (ifB (a0 == (1 : Int))
  (callB (rec 36 [OV.flat (FV.val (PV.int .i64 a1))]) fun r2 => needB (okOs Go.Proofs.Tryd.prog [29] [.o] (Prod.fst r2)) <|
  needB (Nat.ble ((List.length [PV.int .u8 (IntKind.wrap .u8 a0)] + List.length (FV.xs (OV.fv (List.headD (Prod.fst r2) (OV.flat FV.gone))))) * 1) 140737488355328) <|
  needB (Nat.ble (List.length [PV.int .u8 (IntKind.wrap .u8 a0)] + List.length (FV.xs (OV.fv (List.headD (Prod.fst r2) (OV.flat FV.gone))))) 9223372036854775807) <|
  some ([OV.flat (FV.own none ([PV.int .u8 (IntKind.wrap .u8 a0)] ++ (FV.xs (OV.fv (List.headD (Prod.fst r2) (OV.flat FV.gone))))) []), OV.flat (FV.val (PV.int .i64 (0 : Int)))], []))
  (ifB (a0 == (2 : Int))
  (callB (rec 37 [OV.flat (FV.val (PV.str a2))]) fun r3 => needB (okOs Go.Proofs.Tryd.prog [29] [.o] (Prod.fst r3)) <|
  needB (Nat.ble ((List.length [PV.int .u8 (IntKind.wrap .u8 a0)] + List.length (FV.xs (OV.fv (List.headD (Prod.fst r3) (OV.flat FV.gone))))) * 1) 140737488355328) <|
  needB (Nat.ble (List.length [PV.int .u8 (IntKind.wrap .u8 a0)] + List.length (FV.xs (OV.fv (List.headD (Prod.fst r3) (OV.flat FV.gone))))) 9223372036854775807) <|
  some ([OV.flat (FV.own none ([PV.int .u8 (IntKind.wrap .u8 a0)] ++ (FV.xs (OV.fv (List.headD (Prod.fst r3) (OV.flat FV.gone))))) []), OV.flat (FV.val (PV.int .i64 (0 : Int)))], []))
  (some ([OV.flat (FV.own none [PV.int .u8 (IntKind.wrap .u8 a0)] []), OV.flat (FV.val (PV.int .i64 (0 : Int)))], []))))

theorem f23_value_Key_eq (rec : Rec) (n : Nat) (a0 : Int) (a1 : Int) (a2 : List UInt8) : callBody C rec n 23 [OV.flat (FV.val (PV.agg [PV.int .i64 a0, PV.int .i64 a1, PV.str a2]))] = f23_value_Key rec n a0 a1 a2 := by kernel_rfl

noncomputable def f24_value_Compare (rec : Rec) (n : Nat) (a0 : Int) (a1 : Int) (a2 : List UInt8) (a3 : Int) (a4 : Int) (a5 : List UInt8) : Option (List OV × List OV) :=
  callB (rec 39 [OV.flat (FV.val (PV.int .i64 a0)), OV.flat (FV.val (PV.int .i64 a3))]) fun r1 => needB (okOs Go.Proofs.Tryd.prog [3] [] (Prod.fst r1)) <|
  callB (rec 39 [OV.flat (FV.val (PV.int .i64 a1)), OV.flat (FV.val (PV.int .i64 a4))]) fun r2 => needB (okOs Go.Proofs.Tryd.prog [3] [] (Prod.fst r2)) <|
  callB (rec 40 [OV.flat (FV.val (PV.str a2)), OV.flat (FV.val (PV.str a5))]) fun r3 => needB (okOs Go.Proofs.Tryd.prog [3] [] (Prod.fst r3)) <|
  callB (rec 38 [OV.flat (FV.val (PV.sl none [PV.int .i64 (PV.toI (FV.pv (OV.fv (List.headD (Prod.fst r1) (OV.flat FV.gone))))), PV.int .i64 (PV.toI (FV.pv (OV.fv (List.headD (Prod.fst r2) (OV.flat FV.gone))))), PV.int .i64 (PV.toI (FV.pv (OV.fv (List.headD (Prod.fst r3) (OV.flat FV.gone)))))]))]) fun r4 => needB (okOs Go.Proofs.Tryd.prog [3] [] (Prod.fst r4)) <|
  some ([OV.flat (FV.val (PV.int .i64 (PV.toI (FV.pv (OV.fv (List.headD (Prod.fst r4) (OV.flat FV.gone)))))))], [])

theorem f24_value_Compare_eq (rec : Rec) (n : Nat) (a0 : Int) (a1 : Int) (a2 : List UInt8) (a3 : Int) (a4 : Int) (a5 : List UInt8) : callBody C rec n 24 [OV.flat (FV.val (PV.agg [PV.int .i64 a0, PV.int .i64 a1, PV.str a2])), OV.flat (FV.val (PV.agg [PV.int .i64 a3, PV.int .i64 a4, PV.str a5]))] = f24_value_Compare rec n a0 a1 a2 a3 a4 a5 := by kernel_rfl

noncomputable def f25_eval_True (rec : Rec) (n : Nat) (a0 : Int) (a1 : Int) (a2 : List UInt8) (a3 : List UInt8) (a4 : Int) (a5 : Int) (a6 : List UInt8) (a7 : List PV) (a8 : List PV) : Option (List OV × List OV) :=
  callB (rec 41 [OV.flat (FV.val (PV.agg [PV.int .i64 a0, PV.int .i64 a1, PV.str a2, PV.str a3, PV.int .i64 a4, PV.int .i64 a5, PV.str a6, PV.sl (some 8) a7])), OV.flat (FV.val (PV.sl (some 3) a8))]) fun r1 => needB (okOs Go.Proofs.Tryd.prog [23, 42] [] (Prod.fst r1)) <|
  ifB (PV.toI (FV.pv (OV.fv (List.headD (List.tail (Prod.fst r1)) (OV.flat FV.gone)))) == (0 : Int))
  (ifB (PV.toI (List.headD (PV.cells (FV.pv (OV.fv (List.headD (Prod.fst r1) (OV.flat FV.gone))))) PV.undef) == (2 : Int))
  (some ([OV.flat (FV.val (PV.bool false)), OV.flat (FV.val (PV.int .i64 (9 : Int)))], []))
  (ifB (PV.toI (FV.pv (OV.fv (List.headD (List.tail (Prod.fst r1)) (OV.flat FV.gone)))) == (0 : Int))
  (callB (rec 42 [OV.flat (FV.val (PV.agg [PV.int .i64 (PV.toI (List.headD (PV.cells (FV.pv (OV.fv (List.headD (Prod.fst r1) (OV.flat FV.gone))))) PV.undef)), PV.int .i64 (PV.toI (List.headD (List.tail (PV.cells (FV.pv (OV.fv (List.headD (Prod.fst r1) (OV.flat FV.gone)))))) PV.undef)), PV.str (PV.toS (List.headD (List.tail (List.tail (PV.cells (FV.pv (OV.fv (List.headD (Prod.fst r1) (OV.flat FV.gone))))))) PV.undef))]))]) fun r2 => needB (okOs Go.Proofs.Tryd.prog [4] [] (Prod.fst r2)) <|
  some ([OV.flat (FV.val (PV.bool (PV.toB (FV.pv (OV.fv (List.headD (Prod.fst r2) (OV.flat FV.gone))))))), OV.flat (FV.val (PV.int .i64 (PV.toI (FV.pv (OV.fv (List.headD (List.tail (Prod.fst r1)) (OV.flat FV.gone)))))))], []))
  (some ([OV.flat (FV.val (PV.bool false)), OV.flat (FV.val (PV.int .i64 (PV.toI (FV.pv (OV.fv (List.headD (List.tail (Prod.fst r1)) (OV.flat FV.gone)))))))], []))))
  (ifB (PV.toI (FV.pv (OV.fv (List.headD (List.tail (Prod.fst r1)) (OV.flat FV.gone)))) == (0 : Int))
  (callB (rec 42 [OV.flat (FV.val (PV.agg [PV.int .i64 (PV.toI (List.headD (PV.cells (FV.pv (OV.fv (List.headD (Prod.fst r1) (OV.flat FV.gone))))) PV.undef)), PV.int .i64 (PV.toI (List.headD (List.tail (PV.cells (FV.pv (OV.fv (List.headD (Prod.fst r1) (OV.flat FV.gone)))))) PV.undef)), PV.str (PV.toS (List.headD (List.tail (List.tail (PV.cells (FV.pv (OV.fv (List.headD (Prod.fst r1) (OV.flat FV.gone))))))) PV.undef))]))]) fun r3 => needB (okOs Go.Proofs.Tryd.prog [4] [] (Prod.fst r3)) <|
  some ([OV.flat (FV.val (PV.bool (PV.toB (FV.pv (OV.fv (List.headD (Prod.fst r3) (OV.flat FV.gone))))))), OV.flat (FV.val (PV.int .i64 (PV.toI (FV.pv (OV.fv (List.headD (List.tail (Prod.fst r1)) (OV.flat FV.gone)))))))], []))
  (some ([OV.flat (FV.val (PV.bool false)), OV.flat (FV.val (PV.int .i64 (PV.toI (FV.pv (OV.fv (List.headD (List.tail (Prod.fst r1)) (OV.flat FV.gone)))))))], [])))

theorem f25_eval_True_eq (rec : Rec) (n : Nat) (a0 : Int) (a1 : Int) (a2 : List UInt8) (a3 : List UInt8) (a4 : Int) (a5 : Int) (a6 : List UInt8) (a7 : List PV) (a8 : List PV) : callBody C rec n 25 [OV.flat (FV.val (PV.agg [PV.int .i64 a0, PV.int .i64 a1, PV.str a2, PV.str a3, PV.int .i64 a4, PV.int .i64 a5, PV.str a6, PV.sl (some 8) a7])), OV.flat (FV.val (PV.sl (some 3) a8))] = f25_eval_True rec n a0 a1 a2 a3 a4 a5 a6 a7 a8 := by kernel_rfl

noncomputable def f26_plan_Span_1 (rec : Rec) (n : Nat) (a0 : Int) (a1 : Int) (a2 : List UInt8) (a3 : List UInt8) (a4 : Int) (a5 : Int) (a6 : List UInt8) (a7 : List PV) (a8 : Int) (a9 : Int) (a10 : List UInt8) (a11 : List UInt8) (a12 : Int) (a13 : Int) (a14 : List UInt8) (a15 : List PV) (a16 : Int) : Option (List OV × List OV) :=
  ifB (a0 == (2 : Int))
  (needB (hasT Go.Proofs.Tryd.prog 3 (PV.int .i64 a16)) <|
  ifB ((a4 == (1 : Int)) && ((a5 == (PV.toI (PV.int .i64 a16))) && ((a6 == ([] : List UInt8)) && (true))))
  (some ([OV.flat (FV.val (PV.bool (a8 == (1 : Int))))], []))
  (some ([OV.flat (FV.val (PV.bool false))], [])))
  (some ([OV.flat (FV.val (PV.bool false))], []))

theorem f26_plan_Span_1_eq (rec : Rec) (n : Nat) (a0 : Int) (a1 : Int) (a2 : List UInt8) (a3 : List UInt8) (a4 : Int) (a5 : Int) (a6 : List UInt8) (a7 : List PV) (a8 : Int) (a9 : Int) (a10 : List UInt8) (a11 : List UInt8) (a12 : Int) (a13 : Int) (a14 : List UInt8) (a15 : List PV) (a16 : Int) : callBody C rec n 26 [OV.flat (FV.val (PV.agg [PV.int .i64 a0, PV.int .i64 a1, PV.str a2, PV.str a3, PV.int .i64 a4, PV.int .i64 a5, PV.str a6, PV.sl (some 8) a7])), OV.flat (FV.val (PV.agg [PV.int .i64 a8, PV.int .i64 a9, PV.str a10, PV.str a11, PV.int .i64 a12, PV.int .i64 a13, PV.str a14, PV.sl (some 8) a15])), OV.flat (FV.val (PV.ptr (some 1) (PV.agg [PV.int .i64 a16])))] = f26_plan_Span_1 rec n a0 a1 a2 a3 a4 a5 a6 a7 a8 a9 a10 a11 a12 a13 a14 a15 a16 := by kernel_rfl

noncomputable def f27_plan_test (rec : Rec) (n : Nat) (a0 : Int) (a1 : Int) (a2 : Int) (a3 : List UInt8) : Option (List OV × List OV) :=
  callB (rec 23 [OV.flat (FV.val (PV.agg [PV.int .i64 a1, PV.int .i64 a2, PV.str a3]))]) fun r1 => needB (okOs Go.Proofs.Tryd.prog [29, 42] [.o, .v] (Prod.fst r1)) <|
  ifB (PV.toI (FV.pv (OV.fv (List.headD (List.tail (Prod.fst r1)) (OV.flat FV.gone)))) != (0 : Int))
  (callB (rec 19 []) fun r2 => needB (okOs Go.Proofs.Tryd.prog [31] [.a [true, true, false]] (Prod.fst r2)) <|
  some ([OV.cont .agg [FV.own none (FV.xs (List.headD (OV.cells (List.headD (Prod.fst r2) (OV.flat FV.gone))) FV.gone)) [], FV.own none (FV.xs (List.headD (List.tail (OV.cells (List.headD (Prod.fst r2) (OV.flat FV.gone)))) FV.gone)) [], FV.val (PV.bool (PV.toB (FV.pv (List.headD (List.tail (List.tail (OV.cells (List.headD (Prod.fst r2) (OV.flat FV.gone))))) FV.gone))))]], []))
  (ifB (a1 == (0 : Int))
  (callB (rec 20 []) fun r3 => needB (okOs Go.Proofs.Tryd.prog [31] [.a [true, true, false]] (Prod.fst r3)) <|
  some ([OV.cont .agg [FV.own none (FV.xs (List.headD (OV.cells (List.headD (Prod.fst r3) (OV.flat FV.gone))) FV.gone)) [], FV.own none (FV.xs (List.headD (List.tail (OV.cells (List.headD (Prod.fst r3) (OV.flat FV.gone)))) FV.gone)) [], FV.val (PV.bool (PV.toB (FV.pv (List.headD (List.tail (List.tail (OV.cells (List.headD (Prod.fst r3) (OV.flat FV.gone))))) FV.gone))))]], []))
  (callB (rec 34 [OV.flat (FV.val (PV.sl none (FV.xs (OV.fv (List.headD (Prod.fst r1) (OV.flat FV.gone))))))]) fun r4 => needB (okOs Go.Proofs.Tryd.prog [29] [.o] (Prod.fst r4)) <|
  needB (Nat.ble ((List.length (FV.xs (OV.fv (List.headD (Prod.fst r4) (OV.flat FV.gone)))) + List.length [PV.int .u8 (0 : Int)]) * 1) 140737488355328) <|
  needB (Nat.ble (List.length (FV.xs (OV.fv (List.headD (Prod.fst r4) (OV.flat FV.gone)))) + List.length [PV.int .u8 (0 : Int)]) 9223372036854775807) <|
  ifB (a0 == (3 : Int))
  (some ([OV.cont .agg [FV.own none (FV.xs (OV.fv (List.headD (Prod.fst r1) (OV.flat FV.gone)))) [], FV.own none ((FV.xs (OV.fv (List.headD (Prod.fst r4) (OV.flat FV.gone)))) ++ [PV.int .u8 (0 : Int)]) [], FV.val (PV.bool true)]], []))
  (ifB (a0 == (5 : Int))
  (some ([OV.cont .agg [FV.own none [] [], FV.own none (FV.xs (OV.fv (List.headD (Prod.fst r1) (OV.flat FV.gone)))) [], FV.val (PV.bool true)]], []))
  (ifB (a0 == (6 : Int))
  (some ([OV.cont .agg [FV.own none [] [], FV.own none ((FV.xs (OV.fv (List.headD (Prod.fst r4) (OV.flat FV.gone)))) ++ [PV.int .u8 (0 : Int)]) [], FV.val (PV.bool true)]], []))
  (ifB (a0 == (7 : Int))
  (some ([OV.cont .agg [FV.own none ((FV.xs (OV.fv (List.headD (Prod.fst r4) (OV.flat FV.gone)))) ++ [PV.int .u8 (0 : Int)]) [], FV.own none [] [], FV.val (PV.bool false)]], []))
  (some ([OV.cont .agg [FV.own none (FV.xs (OV.fv (List.headD (Prod.fst r1) (OV.flat FV.gone)))) [], FV.own none [] [], FV.val (PV.bool false)]], [])))))))

theorem f27_plan_test_eq (rec : Rec) (n : Nat) (a0 : Int) (a1 : Int) (a2 : Int) (a3 : List UInt8) : callBody C rec n 27 [OV.flat (FV.val (PV.int .i64 a0)), OV.flat (FV.val (PV.agg [PV.int .i64 a1, PV.int .i64 a2, PV.str a3]))] = f27_plan_test rec n a0 a1 a2 a3 := by kernel_rfl

noncomputable def f28_plan_mirror (rec : Rec) (n : Nat) (a0 : Int) : Option (List OV × List OV) :=
  needB (decide ((0 : Int) ≤ a0)) <|
  needB (decide (a0 < (9 : Int))) <|
  needB (Nat.ble (((Int.toNat a0) * 1) + 1) 9 && Nat.blt ((Int.toNat a0) * 1) 9) <|
  needB (hasT Go.Proofs.Tryd.prog 3 (pickAt none ((Int.toNat a0) * 1) 0 [FV.val (PV.int .i64 (0 : Int)), FV.val (PV.int .i64 (0 : Int)), FV.val (PV.int .i64 (0 : Int)), FV.val (PV.int .i64 (3 : Int)), FV.val (PV.int .i64 (4 : Int)), FV.val (PV.int .i64 (7 : Int)), FV.val (PV.int .i64 (8 : Int)), FV.val (PV.int .i64 (5 : Int)), FV.val (PV.int .i64 (6 : Int))])) <|
  some ([OV.flat (FV.val (PV.int .i64 (PV.toI (pickAt none ((Int.toNat a0) * 1) 0 [FV.val (PV.int .i64 (0 : Int)), FV.val (PV.int .i64 (0 : Int)), FV.val (PV.int .i64 (0 : Int)), FV.val (PV.int .i64 (3 : Int)), FV.val (PV.int .i64 (4 : Int)), FV.val (PV.int .i64 (7 : Int)), FV.val (PV.int .i64 (8 : Int)), FV.val (PV.int .i64 (5 : Int)), FV.val (PV.int .i64 (6 : Int))]))))], [])

theorem f28_plan_mirror_eq (rec : Rec) (n : Nat) (a0 : Int) : callBody C rec n 28 [OV.flat (FV.val (PV.int .i64 a0))] = f28_plan_mirror rec n a0 := by kernel_rfl

noncomputable def f29_vestryref15_is (rec : Rec) (n : Nat) (a0 : Int) (a1 : Int) (a2 : List UInt8) (a3 : List UInt8) (a4 : Int) (a5 : Int) (a6 : List UInt8) (a7 : List PV) (a8 : Int) : Option (List OV × List OV) :=
  ifB (a0 == (2 : Int))
  (some ([OV.flat (FV.val (PV.bool ((a4 == (1 : Int)) && ((a5 == a8) && ((a6 == ([] : List UInt8)) && (true))))))], []))
  (some ([OV.flat (FV.val (PV.bool false))], []))

theorem f29_vestryref15_is_eq (rec : Rec) (n : Nat) (a0 : Int) (a1 : Int) (a2 : List UInt8) (a3 : List UInt8) (a4 : Int) (a5 : Int) (a6 : List UInt8) (a7 : List PV) (a8 : Int) : callBody C rec n 29 [OV.flat (FV.val (PV.agg [PV.int .i64 a0, PV.int .i64 a1, PV.str a2, PV.str a3, PV.int .i64 a4, PV.int .i64 a5, PV.str a6, PV.sl (some 8) a7])), OV.flat (FV.val (PV.int .i64 a8))] = f29_vestryref15_is rec n a0 a1 a2 a3 a4 a5 a6 a7 a8 := by kernel_rfl

noncomputable def f30_vestryref15_literal (rec : Rec) (n : Nat) (a0 : Int) (a1 : Int) (a2 : List UInt8) (a3 : List UInt8) (a4 : Int) (a5 : Int) (a6 : List UInt8) (a7 : List PV) : Option (List OV × List OV) :=
  ifB (a0 == (1 : Int))
  (callB (rec 43 [OV.flat (FV.val (PV.agg [PV.int .i64 a4, PV.int .i64 a5, PV.str a6]))]) fun r1 => needB (okOs Go.Proofs.Tryd.prog [42] [] (Prod.fst r1)) <|
  some ([OV.flat (FV.val (PV.bool (PV.toI (FV.pv (OV.fv (List.headD (Prod.fst r1) (OV.flat FV.gone)))) == (0 : Int))))], []))
  (some ([OV.flat (FV.val (PV.bool false))], []))

theorem f30_vestryref15_literal_eq (rec : Rec) (n : Nat) (a0 : Int) (a1 : Int) (a2 : List UInt8) (a3 : List UInt8) (a4 : Int) (a5 : Int) (a6 : List UInt8) (a7 : List PV) : callBody C rec n 30 [OV.flat (FV.val (PV.agg [PV.int .i64 a0, PV.int .i64 a1, PV.str a2, PV.str a3, PV.int .i64 a4, PV.int .i64 a5, PV.str a6, PV.sl (some 8) a7]))] = f30_vestryref15_literal rec n a0 a1 a2 a3 a4 a5 a6 a7 := by kernel_rfl

noncomputable def f31_vestryref15_test (rec : Rec) (n : Nat) (a0 : Int) (a1 : Int) (a2 : Int) (a3 : List UInt8) : Option (List OV × List OV) :=
  ifB (a1 == (0 : Int))
  (callB (rec 44 []) fun r1 => needB (okOs Go.Proofs.Tryd.prog [31] [] (Prod.fst r1)) <|
  some ([OV.flat (FV.val (PV.agg [PV.sl none (PV.toL (List.headD (PV.cells (FV.pv (OV.fv (List.headD (Prod.fst r1) (OV.flat FV.gone))))) PV.undef)), PV.sl none (PV.toL (List.headD (List.tail (PV.cells (FV.pv (OV.fv (List.headD (Prod.fst r1) (OV.flat FV.gone)))))) PV.undef)), PV.bool (PV.toB (List.headD (List.tail (List.tail (PV.cells (FV.pv (OV.fv (List.headD (Prod.fst r1) (OV.flat FV.gone))))))) PV.undef))]))], []))
  (callB (rec 45 [OV.flat (FV.val (PV.agg [PV.int .i64 a1, PV.int .i64 a2, PV.str a3]))]) fun r2 => needB (okOs Go.Proofs.Tryd.prog [29, 42] [.o, .v] (Prod.fst r2)) <|
  needB (Nat.ble ((List.length ([] : List PV) + List.length (FV.xs (OV.fv (List.headD (Prod.fst r2) (OV.flat FV.gone))))) * 1) 140737488355328) <|
  needB (Nat.ble (List.length ([] : List PV) + List.length (FV.xs (OV.fv (List.headD (Prod.fst r2) (OV.flat FV.gone))))) 9223372036854775807) <|
  needB (Nat.ble ((List.length ([] ++ (FV.xs (OV.fv (List.headD (Prod.fst r2) (OV.flat FV.gone))))) + List.length [PV.int .u8 (0 : Int)]) * 1) 140737488355328) <|
  needB (Nat.ble (List.length ([] ++ (FV.xs (OV.fv (List.headD (Prod.fst r2) (OV.flat FV.gone))))) + List.length [PV.int .u8 (0 : Int)]) 9223372036854775807) <|
  ifB (a0 == (3 : Int))
  (some ([OV.cont .agg [FV.own none (FV.xs (OV.fv (List.headD (Prod.fst r2) (OV.flat FV.gone)))) [], FV.own none (([] ++ (FV.xs (OV.fv (List.headD (Prod.fst r2) (OV.flat FV.gone))))) ++ [PV.int .u8 (0 : Int)]) [], FV.val (PV.bool true)]], []))
  (ifB (a0 == (5 : Int))
  (some ([OV.cont .agg [FV.own none [] [], FV.own none (FV.xs (OV.fv (List.headD (Prod.fst r2) (OV.flat FV.gone)))) [], FV.val (PV.bool true)]], []))
  (ifB (a0 == (6 : Int))
  (some ([OV.cont .agg [FV.own none [] [], FV.own none (([] ++ (FV.xs (OV.fv (List.headD (Prod.fst r2) (OV.flat FV.gone))))) ++ [PV.int .u8 (0 : Int)]) [], FV.val (PV.bool true)]], []))
  (ifB (a0 == (7 : Int))
  (some ([OV.cont .agg [FV.own none (([] ++ (FV.xs (OV.fv (List.headD (Prod.fst r2) (OV.flat FV.gone))))) ++ [PV.int .u8 (0 : Int)]) [], FV.own none [] [], FV.val (PV.bool false)]], []))
  (some ([OV.cont .agg [FV.own none (FV.xs (OV.fv (List.headD (Prod.fst r2) (OV.flat FV.gone)))) [], FV.own none [] [], FV.val (PV.bool false)]], []))))))

theorem f31_vestryref15_test_eq (rec : Rec) (n : Nat) (a0 : Int) (a1 : Int) (a2 : Int) (a3 : List UInt8) : callBody C rec n 31 [OV.flat (FV.val (PV.int .i64 a0)), OV.flat (FV.val (PV.agg [PV.int .i64 a1, PV.int .i64 a2, PV.str a3]))] = f31_vestryref15_test rec n a0 a1 a2 a3 := by kernel_rfl

noncomputable def f32_vestryref15_mirror (rec : Rec) (n : Nat) (a0 : Int) : Option (List OV × List OV) :=
  ifB (a0 == (5 : Int))
  (some ([OV.flat (FV.val (PV.int .i64 (7 : Int)))], []))
  (ifB (a0 == (6 : Int))
  (some ([OV.flat (FV.val (PV.int .i64 (8 : Int)))], []))
  (ifB (a0 == (7 : Int))
  (some ([OV.flat (FV.val (PV.int .i64 (5 : Int)))], []))
  (ifB (a0 == (8 : Int))
  (some ([OV.flat (FV.val (PV.int .i64 (6 : Int)))], []))
  (some ([OV.flat (FV.val (PV.int .i64 a0))], [])))))

theorem f32_vestryref15_mirror_eq (rec : Rec) (n : Nat) (a0 : Int) : callBody C rec n 32 [OV.flat (FV.val (PV.int .i64 a0))] = f32_vestryref15_mirror rec n a0 := by kernel_rfl

noncomputable def f35_value_bare (rec : Rec) (n : Nat) (a0 : Int) (a1 : Int) (a2 : List UInt8) : Option (List OV × List OV) :=
  ifB (a0 == (0 : Int))
  (some ([OV.flat (FV.val (PV.agg [PV.int .i64 (0 : Int), PV.int .i64 (0 : Int), PV.str ([] : List UInt8)]))], []))
  (ifB (a0 == (1 : Int))
  (some ([OV.flat (FV.val (PV.agg [PV.int .i64 a0, PV.int .i64 a1, PV.str ([] : List UInt8)]))], []))
  (ifB (a0 == (2 : Int))
  (some ([OV.flat (FV.val (PV.agg [PV.int .i64 a0, PV.int .i64 (0 : Int), PV.str a2]))], []))
  (some ([OV.flat (FV.val (PV.agg [PV.int .i64 a0, PV.int .i64 a1, PV.str a2]))], []))))

theorem f35_value_bare_eq (rec : Rec) (n : Nat) (a0 : Int) (a1 : Int) (a2 : List UInt8) : callBody C rec n 35 [OV.flat (FV.val (PV.agg [PV.int .i64 a0, PV.int .i64 a1, PV.str a2]))] = f35_value_bare rec n a0 a1 a2 := by kernel_rfl

noncomputable def f36_plain_NumKey (rec : Rec) (n : Nat) (a0 : Int) : Option (List OV × List OV) :=
  callB (rec 47 [OV.flat (FV.val (PV.int .i64 a0))]) fun r1 => needB (okOs Go.Proofs.Tryd.prog [29] [.o] (Prod.fst r1)) <|
  needB (decide ((0 : Int) < ((List.length (FV.xs (OV.fv (List.headD (Prod.fst r1) (OV.flat FV.gone)))) : Nat) : Int))) <|
  needB (Nat.blt 0 (List.length (FV.xs (OV.fv (List.headD (Prod.fst r1) (OV.flat FV.gone)))))) <|
  needB (hasT Go.Proofs.Tryd.prog 5 (nthP (FV.xs (OV.fv (List.headD (Prod.fst r1) (OV.flat FV.gone)))) 0)) <|
  needB (decide ((0 : Int) < ((List.length (FV.xs (OV.fv (List.headD (Prod.fst r1) (OV.flat FV.gone)))) : Nat) : Int))) <|
  needB (Nat.blt 0 (List.length (FV.xs (OV.fv (List.headD (Prod.fst r1) (OV.flat FV.gone)))))) <|
  some ([OV.flat (FV.own none (List.set (FV.xs (OV.fv (List.headD (Prod.fst r1) (OV.flat FV.gone)))) 0 (PV.int .u8 (IntKind.wrap .u8 (((BitVec.toNat ((BitVec.ofInt (IntKind.bits .u8) (PV.toI (nthP (FV.xs (OV.fv (List.headD (Prod.fst r1) (OV.flat FV.gone)))) 0))) ^^^ (BitVec.ofInt (IntKind.bits .u8) (128 : Int))) : Nat) : Int))))) [])], [])

theorem f36_plain_NumKey_eq (rec : Rec) (n : Nat) (a0 : Int) : callBody C rec n 36 [OV.flat (FV.val (PV.int .i64 a0))] = f36_plain_NumKey rec n a0 := by kernel_rfl

noncomputable def f37_plain_TextKey (rec : Rec) (n : Nat) (a0 : List UInt8) : Option (List OV × List OV) :=
  needB (Nat.ble (List.length a0) 9223372036854775807) <|
  callB (rec 48 [OV.flat (FV.val (PV.sl none (List.map pvByte a0))), OV.flat (FV.val (PV.sl none [PV.int .u8 (0 : Int)])), OV.flat (FV.val (PV.sl none [PV.int .u8 (0 : Int), PV.int .u8 (255 : Int)]))]) fun r1 => needB (okOs Go.Proofs.Tryd.prog [29] [.o] (Prod.fst r1)) <|
  needB (Nat.ble ((List.length (FV.xs (OV.fv (List.headD (Prod.fst r1) (OV.flat FV.gone)))) + List.length [PV.int .u8 (0 : Int), PV.int .u8 (0 : Int)]) * 1) 140737488355328) <|
  needB (Nat.ble (List.length (FV.xs (OV.fv (List.headD (Prod.fst r1) (OV.flat FV.gone)))) + List.length [PV.int .u8 (0 : Int), PV.int .u8 (0 : Int)]) 9223372036854775807) <|
  some ([OV.flat (FV.own none ((FV.xs (OV.fv (List.headD (Prod.fst r1) (OV.flat FV.gone)))) ++ [PV.int .u8 (0 : Int), PV.int .u8 (0 : Int)]) [])], [])

theorem f37_plain_TextKey_eq (rec : Rec) (n : Nat) (a0 : List UInt8) : callBody C rec n 37 [OV.flat (FV.val (PV.str a0))] = f37_plain_TextKey rec n a0 := by kernel_rfl

noncomputable def f38_cmp_Or_int.l0.step (rec : Rec) (n : Nat) (self_l0 : Int → List PV → Int → Int → Option (List OV × List OV)) (x0 : Int) (x1 : List PV) (x2 : Int) (x3 : Int) : Option (List OV × List OV) :=
  ifB (decide (x3 < x2))
  (needB (decide ((0 : Int) ≤ x3)) <|
  needB (decide (x3 < ((List.length x1 : Nat) : Int))) <|
  needB (hasT Go.Proofs.Tryd.prog 3 (nthP x1 (Int.toNat x3))) <|
  ifB (PV.toI (nthP x1 (Int.toNat x3)) != x0)
  (some ([OV.flat (FV.val (PV.int .i64 (PV.toI (nthP x1 (Int.toNat x3)))))], []))
  (self_l0 x0 x1 x2 (IntKind.wrap .i64 (x3 + (1 : Int)))))
  (some ([OV.flat (FV.val (PV.int .i64 x0))], []))

noncomputable def f38_cmp_Or_int.l0 (rec : Rec) (n : Nat) : Nat → Int → List PV → Int → Int → Option (List OV × List OV)
  | 0, _, _, _, _ => none
  | m + 1, x0, x1, x2, x3 => f38_cmp_Or_int.l0.step rec n (f38_cmp_Or_int.l0 rec n m) x0 x1 x2 x3

theorem f38_cmp_Or_int.l0_eq (rec : Rec) (n : Nat) : ∀ (m : Nat) (x0 : Int) (x1 : List PV) (x2 : Int) (x3 : Int), loopAt C rec n 38 [1, 1, 0, 1, 0] [] m [(3, SV.home (OV.flat (FV.val (PV.int .i64 x0)))), (6, SV.home (OV.flat (FV.val (PV.sl none x1)))), (7, SV.home (OV.flat (FV.val (PV.int .i64 x2)))), (8, SV.home (OV.flat (FV.val (PV.int .i64 x3))))] = f38_cmp_Or_int.l0 rec n m x0 x1 x2 x3
  | 0, x0, x1, x2, x3 => by kernel_rfl
  | m + 1, x0, x1, x2, x3 => by
    have ih : (fun x0 x1 x2 x3 => loopAt C rec n 38 [1, 1, 0, 1, 0] [] m [(3, SV.home (OV.flat (FV.val (PV.int .i64 x0)))), (6, SV.home (OV.flat (FV.val (PV.sl none x1)))), (7, SV.home (OV.flat (FV.val (PV.int .i64 x2)))), (8, SV.home (OV.flat (FV.val (PV.int .i64 x3))))]) = f38_cmp_Or_int.l0 rec n m := funext fun x0 => funext fun x1 => funext fun x2 => funext fun x3 => f38_cmp_Or_int.l0_eq rec n m x0 x1 x2 x3
    exact (show loopAt C rec n 38 [1, 1, 0, 1, 0] [] (m + 1) [(3, SV.home (OV.flat (FV.val (PV.int .i64 x0)))), (6, SV.home (OV.flat (FV.val (PV.sl none x1)))), (7, SV.home (OV.flat (FV.val (PV.int .i64 x2)))), (8, SV.home (OV.flat (FV.val (PV.int .i64 x3))))] = f38_cmp_Or_int.l0.step rec n (fun x0 x1 x2 x3 => loopAt C rec n 38 [1, 1, 0, 1, 0] [] m [(3, SV.home (OV.flat (FV.val (PV.int .i64 x0)))), (6, SV.home (OV.flat (FV.val (PV.sl none x1)))), (7, SV.home (OV.flat (FV.val (PV.int .i64 x2)))), (8, SV.home (OV.flat (FV.val (PV.int .i64 x3))))]) x0 x1 x2 x3 from by kernel_rfl).trans (by rw [ih]; rfl)

noncomputable def f38_cmp_Or_int.pre (rec : Rec) (n : Nat) (l0 : Int → List PV → Int → Int → Option (List OV × List OV)) (a0 : List PV) : Option (List OV × List OV) :=
  l0 (0 : Int) a0 ((List.length a0 : Nat) : Int) (0 : Int)

noncomputable def f38_cmp_Or_int (rec : Rec) (n : Nat) (a0 : List PV) : Option (List OV × List OV) := f38_cmp_Or_int.pre rec n (f38_cmp_Or_int.l0 rec n n) a0

theorem f38_cmp_Or_int_eq (rec : Rec) (n : Nat) (a0 : List PV) : callBody C rec n 38 [OV.flat (FV.val (PV.sl none a0))] = f38_cmp_Or_int rec n a0 := by
  have i0 : (fun x0 x1 x2 x3 => loopAt C rec n 38 [1, 1, 0, 1, 0] [] n [(3, SV.home (OV.flat (FV.val (PV.int .i64 x0)))), (6, SV.home (OV.flat (FV.val (PV.sl none x1)))), (7, SV.home (OV.flat (FV.val (PV.int .i64 x2)))), (8, SV.home (OV.flat (FV.val (PV.int .i64 x3))))]) = f38_cmp_Or_int.l0 rec n n := funext fun x0 => funext fun x1 => funext fun x2 => funext fun x3 => f38_cmp_Or_int.l0_eq rec n n x0 x1 x2 x3
  exact (show callBody C rec n 38 [OV.flat (FV.val (PV.sl none a0))] = f38_cmp_Or_int.pre rec n (fun x0 x1 x2 x3 => loopAt C rec n 38 [1, 1, 0, 1, 0] [] n [(3, SV.home (OV.flat (FV.val (PV.int .i64 x0)))), (6, SV.home (OV.flat (FV.val (PV.sl none x1)))), (7, SV.home (OV.flat (FV.val (PV.int .i64 x2)))), (8, SV.home (OV.flat (FV.val (PV.int .i64 x3))))]) a0 from by kernel_rfl).trans (by rw [i0]; rfl)

noncomputable def f39_cmp_Compare_int (rec : Rec) (n : Nat) (a0 : Int) (a1 : Int) : Option (List OV × List OV) :=
  callB (rec 49 [OV.flat (FV.val (PV.int .i64 a0))]) fun r1 => needB (okOs Go.Proofs.Tryd.prog [4] [] (Prod.fst r1)) <|
  callB (rec 49 [OV.flat (FV.val (PV.int .i64 a1))]) fun r2 => needB (okOs Go.Proofs.Tryd.prog [4] [] (Prod.fst r2)) <|
  ifB (PV.toB (FV.pv (OV.fv (List.headD (Prod.fst r1) (OV.flat FV.gone)))))
  (ifB (PV.toB (FV.pv (OV.fv (List.headD (Prod.fst r2) (OV.flat FV.gone)))))
  (some ([OV.flat (FV.val (PV.int .i64 (0 : Int)))], []))
  (some ([OV.flat (FV.val (PV.int .i64 (-1 : Int)))], [])))
  (ifB (PV.toB (FV.pv (OV.fv (List.headD (Prod.fst r2) (OV.flat FV.gone)))))
  (some ([OV.flat (FV.val (PV.int .i64 (1 : Int)))], []))
  (ifB (decide (a0 < a1))
  (some ([OV.flat (FV.val (PV.int .i64 (-1 : Int)))], []))
  (ifB (decide (a0 > a1))
  (some ([OV.flat (FV.val (PV.int .i64 (1 : Int)))], []))
  (some ([OV.flat (FV.val (PV.int .i64 (0 : Int)))], [])))))

theorem f39_cmp_Compare_int_eq (rec : Rec) (n : Nat) (a0 : Int) (a1 : Int) : callBody C rec n 39 [OV.flat (FV.val (PV.int .i64 a0)), OV.flat (FV.val (PV.int .i64 a1))] = f39_cmp_Compare_int rec n a0 a1 := by kernel_rfl

noncomputable def f41_eval_Eval.l0.step (rec : Rec) (n : Nat) (self_l0 : List PV → Int → Int → List UInt8 → List UInt8 → Int → Int → List UInt8 → List PV → Int → Int → List UInt8 → Int → Int → Int → List UInt8 → Int → Int → List UInt8 → List PV → Int → Int → Option (List OV × List OV)) (x0 : List PV) (x1 : Int) (x2 : Int) (x3 : List UInt8) (x4 : List UInt8) (x5 : Int) (x6 : Int) (x7 : List UInt8) (x8 : List PV) (x9 : Int) (x10 : Int) (x11 : List UInt8) (x12 : Int) (x13 : Int) (x14 : Int) (x15 : List UInt8) (x16 : Int) (x17 : Int) (x18 : List UInt8) (x19 : List PV) (x20 : Int) (x21 : Int) : Option (List OV × List OV) :=
  ifB (decide (x21 < x20))
  (needB (decide ((0 : Int) ≤ x21)) <|
  needB (decide (x21 < ((List.length x19 : Nat) : Int))) <|
  needB (hasT Go.Proofs.Tryd.prog 26 (nthP x19 (Int.toNat x21))) <|
  callB (rec 41 [OV.flat (FV.val (PV.agg [PV.int .i64 (PV.toI (List.headD (PV.cells (nthP x19 (Int.toNat x21))) PV.undef)), PV.int .i64 (PV.toI (List.headD (List.tail (PV.cells (nthP x19 (Int.toNat x21)))) PV.undef)), PV.str (PV.toS (List.headD (List.tail (List.tail (PV.cells (nthP x19 (Int.toNat x21))))) PV.undef)), PV.str (PV.toS (List.headD (List.tail (List.tail (List.tail (PV.cells (nthP x19 (Int.toNat x21)))))) PV.undef)), PV.int .i64 (PV.toI (List.headD (List.tail (List.tail (List.tail (List.tail (PV.cells (nthP x19 (Int.toNat x21))))))) PV.undef)), PV.int .i64 (PV.toI (List.headD (List.tail (List.tail (List.tail (List.tail (List.tail (PV.cells (nthP x19 (Int.toNat x21)))))))) PV.undef)), PV.str (PV.toS (List.headD (List.tail (List.tail (List.tail (List.tail (List.tail (List.tail (PV.cells (nthP x19 (Int.toNat x21))))))))) PV.undef)), PV.sl (some 8) (PV.toL (List.headD (List.tail (List.tail (List.tail (List.tail (List.tail (List.tail (List.tail (PV.cells (nthP x19 (Int.toNat x21)))))))))) PV.undef))])), OV.flat (FV.val (PV.sl (some 3) x0))]) fun r3 => needB (okOs Go.Proofs.Tryd.prog [23, 42] [] (Prod.fst r3)) <|
  ifB (PV.toI (FV.pv (OV.fv (List.headD (List.tail (Prod.fst r3)) (OV.flat FV.gone)))) != (0 : Int))
  (some ([OV.flat (FV.val (PV.agg [PV.int .i64 (0 : Int), PV.int .i64 (0 : Int), PV.str ([] : List UInt8)])), OV.flat (FV.val (PV.int .i64 (PV.toI (FV.pv (OV.fv (List.headD (List.tail (Prod.fst r3)) (OV.flat FV.gone)))))))], []))
  (needB (decide ((0 : Int) ≤ x21)) <|
  needB (decide (x21 < (2 : Int))) <|
  needB (Nat.ble (((Int.toNat x21) * 3) + 3) 6) <|
  needB ((hasLike (PV.int .i64 x13) (newAt ((Int.toNat x21) * 3) 0 [PV.int .i64 (PV.toI (List.headD (PV.cells (FV.pv (OV.fv (List.headD (Prod.fst r3) (OV.flat FV.gone))))) PV.undef)), PV.int .i64 (PV.toI (List.headD (List.tail (PV.cells (FV.pv (OV.fv (List.headD (Prod.fst r3) (OV.flat FV.gone)))))) PV.undef)), PV.str (PV.toS (List.headD (List.tail (List.tail (PV.cells (FV.pv (OV.fv (List.headD (Prod.fst r3) (OV.flat FV.gone))))))) PV.undef))] (PV.int .i64 x13))) && ((hasLike (PV.int .i64 x14) (newAt ((Int.toNat x21) * 3) 1 [PV.int .i64 (PV.toI (List.headD (PV.cells (FV.pv (OV.fv (List.headD (Prod.fst r3) (OV.flat FV.gone))))) PV.undef)), PV.int .i64 (PV.toI (List.headD (List.tail (PV.cells (FV.pv (OV.fv (List.headD (Prod.fst r3) (OV.flat FV.gone)))))) PV.undef)), PV.str (PV.toS (List.headD (List.tail (List.tail (PV.cells (FV.pv (OV.fv (List.headD (Prod.fst r3) (OV.flat FV.gone))))))) PV.undef))] (PV.int .i64 x14))) && ((hasLike (PV.str x15) (newAt ((Int.toNat x21) * 3) 2 [PV.int .i64 (PV.toI (List.headD (PV.cells (FV.pv (OV.fv (List.headD (Prod.fst r3) (OV.flat FV.gone))))) PV.undef)), PV.int .i64 (PV.toI (List.headD (List.tail (PV.cells (FV.pv (OV.fv (List.headD (Prod.fst r3) (OV.flat FV.gone)))))) PV.undef)), PV.str (PV.toS (List.headD (List.tail (List.tail (PV.cells (FV.pv (OV.fv (List.headD (Prod.fst r3) (OV.flat FV.gone))))))) PV.undef))] (PV.str x15))) && ((hasLike (PV.int .i64 x16) (newAt ((Int.toNat x21) * 3) 3 [PV.int .i64 (PV.toI (List.headD (PV.cells (FV.pv (OV.fv (List.headD (Prod.fst r3) (OV.flat FV.gone))))) PV.undef)), PV.int .i64 (PV.toI (List.headD (List.tail (PV.cells (FV.pv (OV.fv (List.headD (Prod.fst r3) (OV.flat FV.gone)))))) PV.undef)), PV.str (PV.toS (List.headD (List.tail (List.tail (PV.cells (FV.pv (OV.fv (List.headD (Prod.fst r3) (OV.flat FV.gone))))))) PV.undef))] (PV.int .i64 x16))) && ((hasLike (PV.int .i64 x17) (newAt ((Int.toNat x21) * 3) 4 [PV.int .i64 (PV.toI (List.headD (PV.cells (FV.pv (OV.fv (List.headD (Prod.fst r3) (OV.flat FV.gone))))) PV.undef)), PV.int .i64 (PV.toI (List.headD (List.tail (PV.cells (FV.pv (OV.fv (List.headD (Prod.fst r3) (OV.flat FV.gone)))))) PV.undef)), PV.str (PV.toS (List.headD (List.tail (List.tail (PV.cells (FV.pv (OV.fv (List.headD (Prod.fst r3) (OV.flat FV.gone))))))) PV.undef))] (PV.int .i64 x17))) && ((hasLike (PV.str x18) (newAt ((Int.toNat x21) * 3) 5 [PV.int .i64 (PV.toI (List.headD (PV.cells (FV.pv (OV.fv (List.headD (Prod.fst r3) (OV.flat FV.gone))))) PV.undef)), PV.int .i64 (PV.toI (List.headD (List.tail (PV.cells (FV.pv (OV.fv (List.headD (Prod.fst r3) (OV.flat FV.gone)))))) PV.undef)), PV.str (PV.toS (List.headD (List.tail (List.tail (PV.cells (FV.pv (OV.fv (List.headD (Prod.fst r3) (OV.flat FV.gone))))))) PV.undef))] (PV.str x18))) && (true))))))) <|
  self_l0 x0 x1 x2 x3 x4 x5 x6 x7 x8 x9 x10 x11 x12 (PV.toI (newAt ((Int.toNat x21) * 3) 0 [PV.int .i64 (PV.toI (List.headD (PV.cells (FV.pv (OV.fv (List.headD (Prod.fst r3) (OV.flat FV.gone))))) PV.undef)), PV.int .i64 (PV.toI (List.headD (List.tail (PV.cells (FV.pv (OV.fv (List.headD (Prod.fst r3) (OV.flat FV.gone)))))) PV.undef)), PV.str (PV.toS (List.headD (List.tail (List.tail (PV.cells (FV.pv (OV.fv (List.headD (Prod.fst r3) (OV.flat FV.gone))))))) PV.undef))] (PV.int .i64 x13))) (PV.toI (newAt ((Int.toNat x21) * 3) 1 [PV.int .i64 (PV.toI (List.headD (PV.cells (FV.pv (OV.fv (List.headD (Prod.fst r3) (OV.flat FV.gone))))) PV.undef)), PV.int .i64 (PV.toI (List.headD (List.tail (PV.cells (FV.pv (OV.fv (List.headD (Prod.fst r3) (OV.flat FV.gone)))))) PV.undef)), PV.str (PV.toS (List.headD (List.tail (List.tail (PV.cells (FV.pv (OV.fv (List.headD (Prod.fst r3) (OV.flat FV.gone))))))) PV.undef))] (PV.int .i64 x14))) (PV.toS (newAt ((Int.toNat x21) * 3) 2 [PV.int .i64 (PV.toI (List.headD (PV.cells (FV.pv (OV.fv (List.headD (Prod.fst r3) (OV.flat FV.gone))))) PV.undef)), PV.int .i64 (PV.toI (List.headD (List.tail (PV.cells (FV.pv (OV.fv (List.headD (Prod.fst r3) (OV.flat FV.gone)))))) PV.undef)), PV.str (PV.toS (List.headD (List.tail (List.tail (PV.cells (FV.pv (OV.fv (List.headD (Prod.fst r3) (OV.flat FV.gone))))))) PV.undef))] (PV.str x15))) (PV.toI (newAt ((Int.toNat x21) * 3) 3 [PV.int .i64 (PV.toI (List.headD (PV.cells (FV.pv (OV.fv (List.headD (Prod.fst r3) (OV.flat FV.gone))))) PV.undef)), PV.int .i64 (PV.toI (List.headD (List.tail (PV.cells (FV.pv (OV.fv (List.headD (Prod.fst r3) (OV.flat FV.gone)))))) PV.undef)), PV.str (PV.toS (List.headD (List.tail (List.tail (PV.cells (FV.pv (OV.fv (List.headD (Prod.fst r3) (OV.flat FV.gone))))))) PV.undef))] (PV.int .i64 x16))) (PV.toI (newAt ((Int.toNat x21) * 3) 4 [PV.int .i64 (PV.toI (List.headD (PV.cells (FV.pv (OV.fv (List.headD (Prod.fst r3) (OV.flat FV.gone))))) PV.undef)), PV.int .i64 (PV.toI (List.headD (List.tail (PV.cells (FV.pv (OV.fv (List.headD (Prod.fst r3) (OV.flat FV.gone)))))) PV.undef)), PV.str (PV.toS (List.headD (List.tail (List.tail (PV.cells (FV.pv (OV.fv (List.headD (Prod.fst r3) (OV.flat FV.gone))))))) PV.undef))] (PV.int .i64 x17))) (PV.toS (newAt ((Int.toNat x21) * 3) 5 [PV.int .i64 (PV.toI (List.headD (PV.cells (FV.pv (OV.fv (List.headD (Prod.fst r3) (OV.flat FV.gone))))) PV.undef)), PV.int .i64 (PV.toI (List.headD (List.tail (PV.cells (FV.pv (OV.fv (List.headD (Prod.fst r3) (OV.flat FV.gone)))))) PV.undef)), PV.str (PV.toS (List.headD (List.tail (List.tail (PV.cells (FV.pv (OV.fv (List.headD (Prod.fst r3) (OV.flat FV.gone))))))) PV.undef))] (PV.str x18))) x19 x20 (IntKind.wrap .i64 (x21 + (1 : Int)))))
  (ifB (x12 == (2 : Int))
  (callB (rec 52 [OV.flat (FV.val (PV.int .i64 x2)), OV.flat (FV.val (PV.agg [PV.int .i64 x13, PV.int .i64 x14, PV.str x15])), OV.flat (FV.val (PV.agg [PV.int .i64 x16, PV.int .i64 x17, PV.str x18]))]) fun r4 => needB (okOs Go.Proofs.Tryd.prog [23, 42] [] (Prod.fst r4)) <|
  some ([OV.flat (FV.val (PV.agg [PV.int .i64 (PV.toI (List.headD (PV.cells (FV.pv (OV.fv (List.headD (Prod.fst r4) (OV.flat FV.gone))))) PV.undef)), PV.int .i64 (PV.toI (List.headD (List.tail (PV.cells (FV.pv (OV.fv (List.headD (Prod.fst r4) (OV.flat FV.gone)))))) PV.undef)), PV.str (PV.toS (List.headD (List.tail (List.tail (PV.cells (FV.pv (OV.fv (List.headD (Prod.fst r4) (OV.flat FV.gone))))))) PV.undef))])), OV.flat (FV.val (PV.int .i64 (PV.toI (FV.pv (OV.fv (List.headD (List.tail (Prod.fst r4)) (OV.flat FV.gone)))))))], []))
  (callB (rec 53 [OV.flat (FV.val (PV.int .i64 x1)), OV.flat (FV.val (PV.agg [PV.int .i64 x13, PV.int .i64 x14, PV.str x15]))]) fun r5 => needB (okOs Go.Proofs.Tryd.prog [23, 42] [] (Prod.fst r5)) <|
  some ([OV.flat (FV.val (PV.agg [PV.int .i64 (PV.toI (List.headD (PV.cells (FV.pv (OV.fv (List.headD (Prod.fst r5) (OV.flat FV.gone))))) PV.undef)), PV.int .i64 (PV.toI (List.headD (List.tail (PV.cells (FV.pv (OV.fv (List.headD (Prod.fst r5) (OV.flat FV.gone)))))) PV.undef)), PV.str (PV.toS (List.headD (List.tail (List.tail (PV.cells (FV.pv (OV.fv (List.headD (Prod.fst r5) (OV.flat FV.gone))))))) PV.undef))])), OV.flat (FV.val (PV.int .i64 (PV.toI (FV.pv (OV.fv (List.headD (List.tail (Prod.fst r5)) (OV.flat FV.gone)))))))], [])))

noncomputable def f41_eval_Eval.l0 (rec : Rec) (n : Nat) : Nat → List PV → Int → Int → List UInt8 → List UInt8 → Int → Int → List UInt8 → List PV → Int → Int → List UInt8 → Int → Int → Int → List UInt8 → Int → Int → List UInt8 → List PV → Int → Int → Option (List OV × List OV)
  | 0, _, _, _, _, _, _, _, _, _, _, _, _, _, _, _, _, _, _, _, _, _, _ => none
  | m + 1, x0, x1, x2, x3, x4, x5, x6, x7, x8, x9, x10, x11, x12, x13, x14, x15, x16, x17, x18, x19, x20, x21 => f41_eval_Eval.l0.step rec n (f41_eval_Eval.l0 rec n m) x0 x1 x2 x3 x4 x5 x6 x7 x8 x9 x10 x11 x12 x13 x14 x15 x16 x17 x18 x19 x20 x21

theorem f41_eval_Eval.l0_eq (rec : Rec) (n : Nat) : ∀ (m : Nat) (x0 : List PV) (x1 : Int) (x2 : Int) (x3 : List UInt8) (x4 : List UInt8) (x5 : Int) (x6 : Int) (x7 : List UInt8) (x8 : List PV) (x9 : Int) (x10 : Int) (x11 : List UInt8) (x12 : Int) (x13 : Int) (x14 : Int) (x15 : List UInt8) (x16 : Int) (x17 : Int) (x18 : List UInt8) (x19 : List PV) (x20 : Int) (x21 : Int), loopAt C rec n 41 [1, 1, 1, 1, 1, 0, 1, 0] [] m [(1, SV.home (OV.flat (FV.val (PV.sl (some 3) x0)))), (2, SV.home (OV.cont .box [FV.val (PV.int .i64 x1), FV.val (PV.int .i64 x2), FV.val (PV.str x3), FV.val (PV.str x4), FV.val (PV.int .i64 x5), FV.val (PV.int .i64 x6), FV.val (PV.str x7), FV.val (PV.sl (some 8) x8)])), (4, SV.home (OV.cont .box [FV.val (PV.int .i64 x9), FV.val (PV.int .i64 x10), FV.val (PV.str x11)])), (6, SV.home (OV.flat (FV.val (PV.int .i64 x12)))), (8, SV.home (OV.cont .box [FV.val (PV.int .i64 x13), FV.val (PV.int .i64 x14), FV.val (PV.str x15), FV.val (PV.int .i64 x16), FV.val (PV.int .i64 x17), FV.val (PV.str x18)])), (63, SV.home (OV.flat (FV.val (PV.sl (some 8) x19)))), (64, SV.home (OV.flat (FV.val (PV.int .i64 x20)))), (65, SV.home (OV.flat (FV.val (PV.int .i64 x21))))] = f41_eval_Eval.l0 rec n m x0 x1 x2 x3 x4 x5 x6 x7 x8 x9 x10 x11 x12 x13 x14 x15 x16 x17 x18 x19 x20 x21
  | 0, x0, x1, x2, x3, x4, x5, x6, x7, x8, x9, x10, x11, x12, x13, x14, x15, x16, x17, x18, x19, x20, x21 => by kernel_rfl
  | m + 1, x0, x1, x2, x3, x4, x5, x6, x7, x8, x9, x10, x11, x12, x13, x14, x15, x16, x17, x18, x19, x20, x21 => by
    have ih : (fun x0 x1 x2 x3 x4 x5 x6 x7 x8 x9 x10 x11 x12 x13 x14 x15 x16 x17 x18 x19 x20 x21 => loopAt C rec n 41 [1, 1, 1, 1, 1, 0, 1, 0] [] m [(1, SV.home (OV.flat (FV.val (PV.sl (some 3) x0)))), (2, SV.home (OV.cont .box [FV.val (PV.int .i64 x1), FV.val (PV.int .i64 x2), FV.val (PV.str x3), FV.val (PV.str x4), FV.val (PV.int .i64 x5), FV.val (PV.int .i64 x6), FV.val (PV.str x7), FV.val (PV.sl (some 8) x8)])), (4, SV.home (OV.cont .box [FV.val (PV.int .i64 x9), FV.val (PV.int .i64 x10), FV.val (PV.str x11)])), (6, SV.home (OV.flat (FV.val (PV.int .i64 x12)))), (8, SV.home (OV.cont .box [FV.val (PV.int .i64 x13), FV.val (PV.int .i64 x14), FV.val (PV.str x15), FV.val (PV.int .i64 x16), FV.val (PV.int .i64 x17), FV.val (PV.str x18)])), (63, SV.home (OV.flat (FV.val (PV.sl (some 8) x19)))), (64, SV.home (OV.flat (FV.val (PV.int .i64 x20)))), (65, SV.home (OV.flat (FV.val (PV.int .i64 x21))))]) = f41_eval_Eval.l0 rec n m := funext fun x0 => funext fun x1 => funext fun x2 => funext fun x3 => funext fun x4 => funext fun x5 => funext fun x6 => funext fun x7 => funext fun x8 => funext fun x9 => funext fun x10 => funext fun x11 => funext fun x12 => funext fun x13 => funext fun x14 => funext fun x15 => funext fun x16 => funext fun x17 => funext fun x18 => funext fun x19 => funext fun x20 => funext fun x21 => f41_eval_Eval.l0_eq rec n m x0 x1 x2 x3 x4 x5 x6 x7 x8 x9 x10 x11 x12 x13 x14 x15 x16 x17 x18 x19 x20 x21
    exact (show loopAt C rec n 41 [1, 1, 1, 1, 1, 0, 1, 0] [] (m + 1) [(1, SV.home (OV.flat (FV.val (PV.sl (some 3) x0)))), (2, SV.home (OV.cont .box [FV.val (PV.int .i64 x1), FV.val (PV.int .i64 x2), FV.val (PV.str x3), FV.val (PV.str x4), FV.val (PV.int .i64 x5), FV.val (PV.int .i64 x6), FV.val (PV.str x7), FV.val (PV.sl (some 8) x8)])), (4, SV.home (OV.cont .box [FV.val (PV.int .i64 x9), FV.val (PV.int .i64 x10), FV.val (PV.str x11)])), (6, SV.home (OV.flat (FV.val (PV.int .i64 x12)))), (8, SV.home (OV.cont .box [FV.val (PV.int .i64 x13), FV.val (PV.int .i64 x14), FV.val (PV.str x15), FV.val (PV.int .i64 x16), FV.val (PV.int .i64 x17), FV.val (PV.str x18)])), (63, SV.home (OV.flat (FV.val (PV.sl (some 8) x19)))), (64, SV.home (OV.flat (FV.val (PV.int .i64 x20)))), (65, SV.home (OV.flat (FV.val (PV.int .i64 x21))))] = f41_eval_Eval.l0.step rec n (fun x0 x1 x2 x3 x4 x5 x6 x7 x8 x9 x10 x11 x12 x13 x14 x15 x16 x17 x18 x19 x20 x21 => loopAt C rec n 41 [1, 1, 1, 1, 1, 0, 1, 0] [] m [(1, SV.home (OV.flat (FV.val (PV.sl (some 3) x0)))), (2, SV.home (OV.cont .box [FV.val (PV.int .i64 x1), FV.val (PV.int .i64 x2), FV.val (PV.str x3), FV.val (PV.str x4), FV.val (PV.int .i64 x5), FV.val (PV.int .i64 x6), FV.val (PV.str x7), FV.val (PV.sl (some 8) x8)])), (4, SV.home (OV.cont .box [FV.val (PV.int .i64 x9), FV.val (PV.int .i64 x10), FV.val (PV.str x11)])), (6, SV.home (OV.flat (FV.val (PV.int .i64 x12)))), (8, SV.home (OV.cont .box [FV.val (PV.int .i64 x13), FV.val (PV.int .i64 x14), FV.val (PV.str x15), FV.val (PV.int .i64 x16), FV.val (PV.int .i64 x17), FV.val (PV.str x18)])), (63, SV.home (OV.flat (FV.val (PV.sl (some 8) x19)))), (64, SV.home (OV.flat (FV.val (PV.int .i64 x20)))), (65, SV.home (OV.flat (FV.val (PV.int .i64 x21))))]) x0 x1 x2 x3 x4 x5 x6 x7 x8 x9 x10 x11 x12 x13 x14 x15 x16 x17 x18 x19 x20 x21 from by kernel_rfl).trans (by rw [ih]; rfl)

noncomputable def f41_eval_Eval.pre (rec : Rec) (n : Nat) (l0 : List PV → Int → Int → List UInt8 → List UInt8 → Int → Int → List UInt8 → List PV → Int → Int → List UInt8 → Int → Int → Int → List UInt8 → Int → Int → List UInt8 → List PV → Int → Int → Option (List OV × List OV)) (a0 : Int) (a1 : Int) (a2 : List UInt8) (a3 : List UInt8) (a4 : Int) (a5 : Int) (a6 : List UInt8) (a7 : List PV) (a8 : List PV) : Option (List OV × List OV) :=
  ifB (a0 == (1 : Int))
  (callB (rec 51 [OV.flat (FV.val (PV.agg [PV.int .i64 a4, PV.int .i64 a5, PV.str a6]))]) fun r1 => needB (okOs Go.Proofs.Tryd.prog [23, 42] [] (Prod.fst r1)) <|
  some ([OV.flat (FV.val (PV.agg [PV.int .i64 (PV.toI (List.headD (PV.cells (FV.pv (OV.fv (List.headD (Prod.fst r1) (OV.flat FV.gone))))) PV.undef)), PV.int .i64 (PV.toI (List.headD (List.tail (PV.cells (FV.pv (OV.fv (List.headD (Prod.fst r1) (OV.flat FV.gone)))))) PV.undef)), PV.str (PV.toS (List.headD (List.tail (List.tail (PV.cells (FV.pv (OV.fv (List.headD (Prod.fst r1) (OV.flat FV.gone))))))) PV.undef))])), OV.flat (FV.val (PV.int .i64 (PV.toI (FV.pv (OV.fv (List.headD (List.tail (Prod.fst r1)) (OV.flat FV.gone)))))))], []))
  (ifB (a0 == (2 : Int))
  (ifB (a4 == (1 : Int))
  (ifB (decide (a5 ≥ (0 : Int)))
  (ifB (decide (a5 < ((List.length a8 : Nat) : Int)))
  (needB (decide ((0 : Int) ≤ a5)) <|
  needB (decide (a5 < ((List.length a8 : Nat) : Int))) <|
  needB (hasT Go.Proofs.Tryd.prog 23 (nthP a8 (Int.toNat a5))) <|
  callB (rec 51 [OV.flat (FV.val (PV.agg [PV.int .i64 (PV.toI (List.headD (PV.cells (nthP a8 (Int.toNat a5))) PV.undef)), PV.int .i64 (PV.toI (List.headD (List.tail (PV.cells (nthP a8 (Int.toNat a5)))) PV.undef)), PV.str (PV.toS (List.headD (List.tail (List.tail (PV.cells (nthP a8 (Int.toNat a5))))) PV.undef))]))]) fun r2 => needB (okOs Go.Proofs.Tryd.prog [23, 42] [] (Prod.fst r2)) <|
  some ([OV.flat (FV.val (PV.agg [PV.int .i64 (PV.toI (List.headD (PV.cells (FV.pv (OV.fv (List.headD (Prod.fst r2) (OV.flat FV.gone))))) PV.undef)), PV.int .i64 (PV.toI (List.headD (List.tail (PV.cells (FV.pv (OV.fv (List.headD (Prod.fst r2) (OV.flat FV.gone)))))) PV.undef)), PV.str (PV.toS (List.headD (List.tail (List.tail (PV.cells (FV.pv (OV.fv (List.headD (Prod.fst r2) (OV.flat FV.gone))))))) PV.undef))])), OV.flat (FV.val (PV.int .i64 (PV.toI (FV.pv (OV.fv (List.headD (List.tail (Prod.fst r2)) (OV.flat FV.gone)))))))], []))
  (some ([OV.flat (FV.val (PV.agg [PV.int .i64 (0 : Int), PV.int .i64 (0 : Int), PV.str ([] : List UInt8)])), OV.flat (FV.val (PV.int .i64 (12 : Int)))], [])))
  (some ([OV.flat (FV.val (PV.agg [PV.int .i64 (0 : Int), PV.int .i64 (0 : Int), PV.str ([] : List UInt8)])), OV.flat (FV.val (PV.int .i64 (12 : Int)))], [])))
  (some ([OV.flat (FV.val (PV.agg [PV.int .i64 (0 : Int), PV.int .i64 (0 : Int), PV.str ([] : List UInt8)])), OV.flat (FV.val (PV.int .i64 (12 : Int)))], [])))
  (ifB (a0 == (3 : Int))
  (ifB (((List.length a7 : Nat) : Int) != (2 : Int))
  (some ([OV.flat (FV.val (PV.agg [PV.int .i64 (0 : Int), PV.int .i64 (0 : Int), PV.str ([] : List UInt8)])), OV.flat (FV.val (PV.int .i64 (4 : Int)))], []))
  (l0 a8 a0 a1 a2 a3 a4 a5 a6 a7 (0 : Int) (0 : Int) ([] : List UInt8) (2 : Int) (0 : Int) (0 : Int) ([] : List UInt8) (0 : Int) (0 : Int) ([] : List UInt8) a7 ((List.length a7 : Nat) : Int) (0 : Int)))
  (ifB (a0 == (4 : Int))
  (ifB (((List.length a7 : Nat) : Int) != (1 : Int))
  (some ([OV.flat (FV.val (PV.agg [PV.int .i64 (0 : Int), PV.int .i64 (0 : Int), PV.str ([] : List UInt8)])), OV.flat (FV.val (PV.int .i64 (4 : Int)))], []))
  (l0 a8 a0 a1 a2 a3 a4 a5 a6 a7 (0 : Int) (0 : Int) ([] : List UInt8) (1 : Int) (0 : Int) (0 : Int) ([] : List UInt8) (0 : Int) (0 : Int) ([] : List UInt8) a7 ((List.length a7 : Nat) : Int) (0 : Int)))
  (ifB (a0 == (5 : Int))
  (ifB (((List.length a7 : Nat) : Int) != (1 : Int))
  (some ([OV.flat (FV.val (PV.agg [PV.int .i64 (0 : Int), PV.int .i64 (0 : Int), PV.str ([] : List UInt8)])), OV.flat (FV.val (PV.int .i64 (4 : Int)))], []))
  (l0 a8 a0 a1 a2 a3 a4 a5 a6 a7 (0 : Int) (0 : Int) ([] : List UInt8) (1 : Int) (0 : Int) (0 : Int) ([] : List UInt8) (0 : Int) (0 : Int) ([] : List UInt8) a7 ((List.length a7 : Nat) : Int) (0 : Int)))
  (ifB (a0 == (6 : Int))
  (ifB (((List.length a7 : Nat) : Int) != (1 : Int))
  (some ([OV.flat (FV.val (PV.agg [PV.int .i64 (0 : Int), PV.int .i64 (0 : Int), PV.str ([] : List UInt8)])), OV.flat (FV.val (PV.int .i64 (4 : Int)))], []))
  (l0 a8 a0 a1 a2 a3 a4 a5 a6 a7 (0 : Int) (0 : Int) ([] : List UInt8) (1 : Int) (0 : Int) (0 : Int) ([] : List UInt8) (0 : Int) (0 : Int) ([] : List UInt8) a7 ((List.length a7 : Nat) : Int) (0 : Int)))
  (some ([OV.flat (FV.val (PV.agg [PV.int .i64 (0 : Int), PV.int .i64 (0 : Int), PV.str ([] : List UInt8)])), OV.flat (FV.val (PV.int .i64 (4 : Int)))], [])))))))

noncomputable def f41_eval_Eval (rec : Rec) (n : Nat) (a0 : Int) (a1 : Int) (a2 : List UInt8) (a3 : List UInt8) (a4 : Int) (a5 : Int) (a6 : List UInt8) (a7 : List PV) (a8 : List PV) : Option (List OV × List OV) := f41_eval_Eval.pre rec n (f41_eval_Eval.l0 rec n n) a0 a1 a2 a3 a4 a5 a6 a7 a8

theorem f41_eval_Eval_eq (rec : Rec) (n : Nat) (a0 : Int) (a1 : Int) (a2 : List UInt8) (a3 : List UInt8) (a4 : Int) (a5 : Int) (a6 : List UInt8) (a7 : List PV) (a8 : List PV) : callBody C rec n 41 [OV.flat (FV.val (PV.agg [PV.int .i64 a0, PV.int .i64 a1, PV.str a2, PV.str a3, PV.int .i64 a4, PV.int .i64 a5, PV.str a6, PV.sl (some 8) a7])), OV.flat (FV.val (PV.sl (some 3) a8))] = f41_eval_Eval rec n a0 a1 a2 a3 a4 a5 a6 a7 a8 := by
  have i0 : (fun x0 x1 x2 x3 x4 x5 x6 x7 x8 x9 x10 x11 x12 x13 x14 x15 x16 x17 x18 x19 x20 x21 => loopAt C rec n 41 [1, 1, 1, 1, 1, 0, 1, 0] [] n [(1, SV.home (OV.flat (FV.val (PV.sl (some 3) x0)))), (2, SV.home (OV.cont .box [FV.val (PV.int .i64 x1), FV.val (PV.int .i64 x2), FV.val (PV.str x3), FV.val (PV.str x4), FV.val (PV.int .i64 x5), FV.val (PV.int .i64 x6), FV.val (PV.str x7), FV.val (PV.sl (some 8) x8)])), (4, SV.home (OV.cont .box [FV.val (PV.int .i64 x9), FV.val (PV.int .i64 x10), FV.val (PV.str x11)])), (6, SV.home (OV.flat (FV.val (PV.int .i64 x12)))), (8, SV.home (OV.cont .box [FV.val (PV.int .i64 x13), FV.val (PV.int .i64 x14), FV.val (PV.str x15), FV.val (PV.int .i64 x16), FV.val (PV.int .i64 x17), FV.val (PV.str x18)])), (63, SV.home (OV.flat (FV.val (PV.sl (some 8) x19)))), (64, SV.home (OV.flat (FV.val (PV.int .i64 x20)))), (65, SV.home (OV.flat (FV.val (PV.int .i64 x21))))]) = f41_eval_Eval.l0 rec n n := funext fun x0 => funext fun x1 => funext fun x2 => funext fun x3 => funext fun x4 => funext fun x5 => funext fun x6 => funext fun x7 => funext fun x8 => funext fun x9 => funext fun x10 => funext fun x11 => funext fun x12 => funext fun x13 => funext fun x14 => funext fun x15 => funext fun x16 => funext fun x17 => funext fun x18 => funext fun x19 => funext fun x20 => funext fun x21 => f41_eval_Eval.l0_eq rec n n x0 x1 x2 x3 x4 x5 x6 x7 x8 x9 x10 x11 x12 x13 x14 x15 x16 x17 x18 x19 x20 x21
  exact (show callBody C rec n 41 [OV.flat (FV.val (PV.agg [PV.int .i64 a0, PV.int .i64 a1, PV.str a2, PV.str a3, PV.int .i64 a4, PV.int .i64 a5, PV.str a6, PV.sl (some 8) a7])), OV.flat (FV.val (PV.sl (some 3) a8))] = f41_eval_Eval.pre rec n (fun x0 x1 x2 x3 x4 x5 x6 x7 x8 x9 x10 x11 x12 x13 x14 x15 x16 x17 x18 x19 x20 x21 => loopAt C rec n 41 [1, 1, 1, 1, 1, 0, 1, 0] [] n [(1, SV.home (OV.flat (FV.val (PV.sl (some 3) x0)))), (2, SV.home (OV.cont .box [FV.val (PV.int .i64 x1), FV.val (PV.int .i64 x2), FV.val (PV.str x3), FV.val (PV.str x4), FV.val (PV.int .i64 x5), FV.val (PV.int .i64 x6), FV.val (PV.str x7), FV.val (PV.sl (some 8) x8)])), (4, SV.home (OV.cont .box [FV.val (PV.int .i64 x9), FV.val (PV.int .i64 x10), FV.val (PV.str x11)])), (6, SV.home (OV.flat (FV.val (PV.int .i64 x12)))), (8, SV.home (OV.cont .box [FV.val (PV.int .i64 x13), FV.val (PV.int .i64 x14), FV.val (PV.str x15), FV.val (PV.int .i64 x16), FV.val (PV.int .i64 x17), FV.val (PV.str x18)])), (63, SV.home (OV.flat (FV.val (PV.sl (some 8) x19)))), (64, SV.home (OV.flat (FV.val (PV.int .i64 x20)))), (65, SV.home (OV.flat (FV.val (PV.int .i64 x21))))]) a0 a1 a2 a3 a4 a5 a6 a7 a8 from by kernel_rfl).trans (by rw [i0]; rfl)

noncomputable def f42_eval_holds (rec : Rec) (n : Nat) (a0 : Int) (a1 : Int) (a2 : List UInt8) : Option (List OV × List OV) :=
  ifB (a0 == (1 : Int))
  (some ([OV.flat (FV.val (PV.bool (a1 != (0 : Int))))], []))
  (some ([OV.flat (FV.val (PV.bool false))], []))

theorem f42_eval_holds_eq (rec : Rec) (n : Nat) (a0 : Int) (a1 : Int) (a2 : List UInt8) : callBody C rec n 42 [OV.flat (FV.val (PV.agg [PV.int .i64 a0, PV.int .i64 a1, PV.str a2]))] = f42_eval_holds rec n a0 a1 a2 := by kernel_rfl

noncomputable def f43_vestryref07_Right (rec : Rec) (n : Nat) (a0 : Int) (a1 : Int) (a2 : List UInt8) : Option (List OV × List OV) :=
  ifB (decide (a0 < (0 : Int)))
  (some ([OV.flat (FV.val (PV.int .i64 (4 : Int)))], []))
  (ifB (decide (a0 > (2 : Int)))
  (some ([OV.flat (FV.val (PV.int .i64 (4 : Int)))], []))
  (ifB (a0 != (1 : Int))
  (ifB (a1 != (0 : Int))
  (some ([OV.flat (FV.val (PV.int .i64 (4 : Int)))], []))
  (ifB (a0 != (2 : Int))
  (ifB (!(a2 == ([] : List UInt8)))
  (some ([OV.flat (FV.val (PV.int .i64 (4 : Int)))], []))
  (ifB (decide (((List.length a2 : Nat) : Int) > (40 : Int)))
  (some ([OV.flat (FV.val (PV.int .i64 (2 : Int)))], []))
  (some ([OV.flat (FV.val (PV.int .i64 (0 : Int)))], []))))
  (ifB (decide (((List.length a2 : Nat) : Int) > (40 : Int)))
  (some ([OV.flat (FV.val (PV.int .i64 (2 : Int)))], []))
  (some ([OV.flat (FV.val (PV.int .i64 (0 : Int)))], [])))))
  (ifB (a0 != (2 : Int))
  (ifB (!(a2 == ([] : List UInt8)))
  (some ([OV.flat (FV.val (PV.int .i64 (4 : Int)))], []))
  (ifB (decide (((List.length a2 : Nat) : Int) > (40 : Int)))
  (some ([OV.flat (FV.val (PV.int .i64 (2 : Int)))], []))
  (some ([OV.flat (FV.val (PV.int .i64 (0 : Int)))], []))))
  (ifB (decide (((List.length a2 : Nat) : Int) > (40 : Int)))
  (some ([OV.flat (FV.val (PV.int .i64 (2 : Int)))], []))
  (some ([OV.flat (FV.val (PV.int .i64 (0 : Int)))], []))))))

theorem f43_vestryref07_Right_eq (rec : Rec) (n : Nat) (a0 : Int) (a1 : Int) (a2 : List UInt8) : callBody C rec n 43 [OV.flat (FV.val (PV.agg [PV.int .i64 a0, PV.int .i64 a1, PV.str a2]))] = f43_vestryref07_Right rec n a0 a1 a2 := by kernel_rfl

noncomputable def f44_vestryref15_None (rec : Rec) (n : Nat)  : Option (List OV × List OV) :=
  some ([OV.cont .agg [FV.own none [] [], FV.own none [] [], FV.val (PV.bool true)]], [])

theorem f44_vestryref15_None_eq (rec : Rec) (n : Nat)  : callBody C rec n 44 [] = f44_vestryref15_None rec n  := by kernel_rfl

noncomputable def f45_vestryref07_Key (rec : Rec) (n : Nat) (a0 : Int) (a1 : Int) (a2 : List UInt8) : Option (List OV × List OV) :=
  callB (rec 43 [OV.flat (FV.val (PV.agg [PV.int .i64 a0, PV.int .i64 a1, PV.str a2]))]) fun r1 => needB (okOs Go.Proofs.Tryd.prog [42] [] (Prod.fst r1)) <|
  ifB (PV.toI (FV.pv (OV.fv (List.headD (Prod.fst r1) (OV.flat FV.gone)))) != (0 : Int))
  (some ([OV.flat (FV.own none [] []), OV.flat (FV.val (PV.int .i64 (PV.toI (FV.pv (OV.fv (List.headD (Prod.fst r1) (OV.flat FV.gone)))))))], []))
  (ifB (a0 == (1 : Int))
  (callB (rec 54 [OV.flat (FV.val (PV.int .i64 a1))]) fun r2 => needB (okOs Go.Proofs.Tryd.prog [29] [.o] (Prod.fst r2)) <|
  needB (Nat.ble ((List.length [PV.int .u8 (IntKind.wrap .u8 a0)] + List.length (FV.xs (OV.fv (List.headD (Prod.fst r2) (OV.flat FV.gone))))) * 1) 140737488355328) <|
  needB (Nat.ble (List.length [PV.int .u8 (IntKind.wrap .u8 a0)] + List.length (FV.xs (OV.fv (List.headD (Prod.fst r2) (OV.flat FV.gone))))) 9223372036854775807) <|
  ifB (a0 == (2 : Int))
  (callB (rec 55 [OV.flat (FV.val (PV.str a2))]) fun r3 => needB (okOs Go.Proofs.Tryd.prog [29] [.o] (Prod.fst r3)) <|
  needB (Nat.ble ((List.length ([PV.int .u8 (IntKind.wrap .u8 a0)] ++ (FV.xs (OV.fv (List.headD (Prod.fst r2) (OV.flat FV.gone))))) + List.length (FV.xs (OV.fv (List.headD (Prod.fst r3) (OV.flat FV.gone))))) * 1) 140737488355328) <|
  needB (Nat.ble (List.length ([PV.int .u8 (IntKind.wrap .u8 a0)] ++ (FV.xs (OV.fv (List.headD (Prod.fst r2) (OV.flat FV.gone))))) + List.length (FV.xs (OV.fv (List.headD (Prod.fst r3) (OV.flat FV.gone))))) 9223372036854775807) <|
  some ([OV.flat (FV.own none (([PV.int .u8 (IntKind.wrap .u8 a0)] ++ (FV.xs (OV.fv (List.headD (Prod.fst r2) (OV.flat FV.gone))))) ++ (FV.xs (OV.fv (List.headD (Prod.fst r3) (OV.flat FV.gone))))) []), OV.flat (FV.val (PV.int .i64 (0 : Int)))], []))
  (some ([OV.flat (FV.own none ([PV.int .u8 (IntKind.wrap .u8 a0)] ++ (FV.xs (OV.fv (List.headD (Prod.fst r2) (OV.flat FV.gone))))) []), OV.flat (FV.val (PV.int .i64 (0 : Int)))], [])))
  (ifB (a0 == (2 : Int))
  (callB (rec 55 [OV.flat (FV.val (PV.str a2))]) fun r4 => needB (okOs Go.Proofs.Tryd.prog [29] [.o] (Prod.fst r4)) <|
  needB (Nat.ble ((List.length [PV.int .u8 (IntKind.wrap .u8 a0)] + List.length (FV.xs (OV.fv (List.headD (Prod.fst r4) (OV.flat FV.gone))))) * 1) 140737488355328) <|
  needB (Nat.ble (List.length [PV.int .u8 (IntKind.wrap .u8 a0)] + List.length (FV.xs (OV.fv (List.headD (Prod.fst r4) (OV.flat FV.gone))))) 9223372036854775807) <|
  some ([OV.flat (FV.own none ([PV.int .u8 (IntKind.wrap .u8 a0)] ++ (FV.xs (OV.fv (List.headD (Prod.fst r4) (OV.flat FV.gone))))) []), OV.flat (FV.val (PV.int .i64 (0 : Int)))], []))
  (some ([OV.flat (FV.own none [PV.int .u8 (IntKind.wrap .u8 a0)] []), OV.flat (FV.val (PV.int .i64 (0 : Int)))], []))))

theorem f45_vestryref07_Key_eq (rec : Rec) (n : Nat) (a0 : Int) (a1 : Int) (a2 : List UInt8) : callBody C rec n 45 [OV.flat (FV.val (PV.agg [PV.int .i64 a0, PV.int .i64 a1, PV.str a2]))] = f45_vestryref07_Key rec n a0 a1 a2 := by kernel_rfl

noncomputable def f47_plain_Num (rec : Rec) (n : Nat) (a0 : Int) : Option (List OV × List OV) :=
  callB (rec 56 [OV.flat (FV.own none [] []), OV.flat (FV.val (PV.int .i64 a0)), OV.flat (FV.val (PV.int .i64 (8 : Int)))]) fun r1 => needB (okOs Go.Proofs.Tryd.prog [29] [.o] (Prod.fst r1)) <|
  some ([OV.flat (FV.own none (FV.xs (OV.fv (List.headD (Prod.fst r1) (OV.flat FV.gone)))) [])], [])

theorem f47_plain_Num_eq (rec : Rec) (n : Nat) (a0 : Int) : callBody C rec n 47 [OV.flat (FV.val (PV.int .i64 a0))] = f47_plain_Num rec n a0 := by kernel_rfl

noncomputable def f48_bytes_ReplaceAll (rec : Rec) (n : Nat) (a0 : List PV) (a1 : Int) (a2 : Int) (a3 : Int) : Option (List OV × List OV) :=
  callB (rec 57 [OV.flat (FV.val (PV.sl none a0)), OV.flat (FV.val (PV.sl none [PV.int .u8 a1])), OV.flat (FV.val (PV.sl none [PV.int .u8 a2, PV.int .u8 a3])), OV.flat (FV.val (PV.int .i64 (-1 : Int)))]) fun r1 => needB (okOs Go.Proofs.Tryd.prog [29] [.o] (Prod.fst r1)) <|
  some ([OV.flat (FV.own none (FV.xs (OV.fv (List.headD (Prod.fst r1) (OV.flat FV.gone)))) [])], [])

theorem f48_bytes_ReplaceAll_eq (rec : Rec) (n : Nat) (a0 : List PV) (a1 : Int) (a2 : Int) (a3 : Int) : callBody C rec n 48 [OV.flat (FV.val (PV.sl none a0)), OV.flat (FV.val (PV.sl none [PV.int .u8 a1])), OV.flat (FV.val (PV.sl none [PV.int .u8 a2, PV.int .u8 a3]))] = f48_bytes_ReplaceAll rec n a0 a1 a2 a3 := by kernel_rfl

noncomputable def f49_cmp_isNaN_int (rec : Rec) (n : Nat) (a0 : Int) : Option (List OV × List OV) :=
  some ([OV.flat (FV.val (PV.bool (a0 != a0)))], [])

theorem f49_cmp_isNaN_int_eq (rec : Rec) (n : Nat) (a0 : Int) : callBody C rec n 49 [OV.flat (FV.val (PV.int .i64 a0))] = f49_cmp_isNaN_int rec n a0 := by kernel_rfl

noncomputable def f51_eval_known (rec : Rec) (n : Nat) (a0 : Int) (a1 : Int) (a2 : List UInt8) : Option (List OV × List OV) :=
  callB (rec 21 [OV.flat (FV.val (PV.agg [PV.int .i64 a0, PV.int .i64 a1, PV.str a2]))]) fun r1 => needB (okOs Go.Proofs.Tryd.prog [42] [] (Prod.fst r1)) <|
  ifB (PV.toI (FV.pv (OV.fv (List.headD (Prod.fst r1) (OV.flat FV.gone)))) != (0 : Int))
  (some ([OV.flat (FV.val (PV.agg [PV.int .i64 (0 : Int), PV.int .i64 (0 : Int), PV.str ([] : List UInt8)])), OV.flat (FV.val (PV.int .i64 (4 : Int)))], []))
  (some ([OV.flat (FV.val (PV.agg [PV.int .i64 a0, PV.int .i64 a1, PV.str a2])), OV.flat (FV.val (PV.int .i64 (0 : Int)))], []))

theorem f51_eval_known_eq (rec : Rec) (n : Nat) (a0 : Int) (a1 : Int) (a2 : List UInt8) : callBody C rec n 51 [OV.flat (FV.val (PV.agg [PV.int .i64 a0, PV.int .i64 a1, PV.str a2]))] = f51_eval_known rec n a0 a1 a2 := by kernel_rfl

noncomputable def f52_eval_Op (rec : Rec) (n : Nat) (a0 : Int) (a1 : Int) (a2 : Int) (a3 : List UInt8) (a4 : Int) (a5 : Int) (a6 : List UInt8) : Option (List OV × List OV) :=
  ifB (decide (a0 < (1 : Int)))
  (some ([OV.flat (FV.val (PV.agg [PV.int .i64 (0 : Int), PV.int .i64 (0 : Int), PV.str ([] : List UInt8)])), OV.flat (FV.val (PV.int .i64 (4 : Int)))], []))
  (ifB (decide (a0 > (13 : Int)))
  (some ([OV.flat (FV.val (PV.agg [PV.int .i64 (0 : Int), PV.int .i64 (0 : Int), PV.str ([] : List UInt8)])), OV.flat (FV.val (PV.int .i64 (4 : Int)))], []))
  (callB (rec 21 [OV.flat (FV.val (PV.agg [PV.int .i64 a1, PV.int .i64 a2, PV.str a3]))]) fun r1 => needB (okOs Go.Proofs.Tryd.prog [42] [] (Prod.fst r1)) <|
  ifB (PV.toI (FV.pv (OV.fv (List.headD (Prod.fst r1) (OV.flat FV.gone)))) != (0 : Int))
  (some ([OV.flat (FV.val (PV.agg [PV.int .i64 (0 : Int), PV.int .i64 (0 : Int), PV.str ([] : List UInt8)])), OV.flat (FV.val (PV.int .i64 (4 : Int)))], []))
  (callB (rec 21 [OV.flat (FV.val (PV.agg [PV.int .i64 a4, PV.int .i64 a5, PV.str a6]))]) fun r2 => needB (okOs Go.Proofs.Tryd.prog [42] [] (Prod.fst r2)) <|
  ifB (PV.toI (FV.pv (OV.fv (List.headD (Prod.fst r2) (OV.flat FV.gone)))) != (0 : Int))
  (some ([OV.flat (FV.val (PV.agg [PV.int .i64 (0 : Int), PV.int .i64 (0 : Int), PV.str ([] : List UInt8)])), OV.flat (FV.val (PV.int .i64 (4 : Int)))], []))
  (ifB (decide (a0 ≤ (2 : Int)))
  (callB (rec 59 [OV.flat (FV.val (PV.int .i64 a0)), OV.flat (FV.val (PV.agg [PV.int .i64 a1, PV.int .i64 a2, PV.str a3])), OV.flat (FV.val (PV.agg [PV.int .i64 a4, PV.int .i64 a5, PV.str a6]))]) fun r3 => needB (okOs Go.Proofs.Tryd.prog [23, 42] [] (Prod.fst r3)) <|
  some ([OV.flat (FV.val (PV.agg [PV.int .i64 (PV.toI (List.headD (PV.cells (FV.pv (OV.fv (List.headD (Prod.fst r3) (OV.flat FV.gone))))) PV.undef)), PV.int .i64 (PV.toI (List.headD (List.tail (PV.cells (FV.pv (OV.fv (List.headD (Prod.fst r3) (OV.flat FV.gone)))))) PV.undef)), PV.str (PV.toS (List.headD (List.tail (List.tail (PV.cells (FV.pv (OV.fv (List.headD (Prod.fst r3) (OV.flat FV.gone))))))) PV.undef))])), OV.flat (FV.val (PV.int .i64 (PV.toI (FV.pv (OV.fv (List.headD (List.tail (Prod.fst r3)) (OV.flat FV.gone)))))))], []))
  (ifB (a1 == (0 : Int))
  (some ([OV.flat (FV.val (PV.agg [PV.int .i64 (0 : Int), PV.int .i64 (0 : Int), PV.str ([] : List UInt8)])), OV.flat (FV.val (PV.int .i64 (0 : Int)))], []))
  (ifB (a4 == (0 : Int))
  (some ([OV.flat (FV.val (PV.agg [PV.int .i64 (0 : Int), PV.int .i64 (0 : Int), PV.str ([] : List UInt8)])), OV.flat (FV.val (PV.int .i64 (0 : Int)))], []))
  (ifB (decide (a0 ≤ (8 : Int)))
  (callB (rec 60 [OV.flat (FV.val (PV.int .i64 a0)), OV.flat (FV.val (PV.agg [PV.int .i64 a1, PV.int .i64 a2, PV.str a3])), OV.flat (FV.val (PV.agg [PV.int .i64 a4, PV.int .i64 a5, PV.str a6]))]) fun r4 => needB (okOs Go.Proofs.Tryd.prog [23, 42] [] (Prod.fst r4)) <|
  some ([OV.flat (FV.val (PV.agg [PV.int .i64 (PV.toI (List.headD (PV.cells (FV.pv (OV.fv (List.headD (Prod.fst r4) (OV.flat FV.gone))))) PV.undef)), PV.int .i64 (PV.toI (List.headD (List.tail (PV.cells (FV.pv (OV.fv (List.headD (Prod.fst r4) (OV.flat FV.gone)))))) PV.undef)), PV.str (PV.toS (List.headD (List.tail (List.tail (PV.cells (FV.pv (OV.fv (List.headD (Prod.fst r4) (OV.flat FV.gone))))))) PV.undef))])), OV.flat (FV.val (PV.int .i64 (PV.toI (FV.pv (OV.fv (List.headD (List.tail (Prod.fst r4)) (OV.flat FV.gone)))))))], []))
  (ifB (a1 == (2 : Int))
  (some ([OV.flat (FV.val (PV.agg [PV.int .i64 (0 : Int), PV.int .i64 (0 : Int), PV.str ([] : List UInt8)])), OV.flat (FV.val (PV.int .i64 (9 : Int)))], []))
  (ifB (a4 == (2 : Int))
  (some ([OV.flat (FV.val (PV.agg [PV.int .i64 (0 : Int), PV.int .i64 (0 : Int), PV.str ([] : List UInt8)])), OV.flat (FV.val (PV.int .i64 (9 : Int)))], []))
  (callB (rec 62 [OV.flat (FV.val (PV.int .i64 a0)), OV.flat (FV.val (PV.int .i64 a2)), OV.flat (FV.val (PV.int .i64 a5))]) fun r5 => needB (okOs Go.Proofs.Tryd.prog [3, 42] [] (Prod.fst r5)) <|
  callB (rec 61 [OV.flat (FV.val (PV.int .i64 (PV.toI (FV.pv (OV.fv (List.headD (Prod.fst r5) (OV.flat FV.gone))))))), OV.flat (FV.val (PV.int .i64 (PV.toI (FV.pv (OV.fv (List.headD (List.tail (Prod.fst r5)) (OV.flat FV.gone)))))))]) fun r6 => needB (okOs Go.Proofs.Tryd.prog [23, 42] [] (Prod.fst r6)) <|
  some ([OV.flat (FV.val (PV.agg [PV.int .i64 (PV.toI (List.headD (PV.cells (FV.pv (OV.fv (List.headD (Prod.fst r6) (OV.flat FV.gone))))) PV.undef)), PV.int .i64 (PV.toI (List.headD (List.tail (PV.cells (FV.pv (OV.fv (List.headD (Prod.fst r6) (OV.flat FV.gone)))))) PV.undef)), PV.str (PV.toS (List.headD (List.tail (List.tail (PV.cells (FV.pv (OV.fv (List.headD (Prod.fst r6) (OV.flat FV.gone))))))) PV.undef))])), OV.flat (FV.val (PV.int .i64 (PV.toI (FV.pv (OV.fv (List.headD (List.tail (Prod.fst r6)) (OV.flat FV.gone)))))))], [])))))))))))

theorem f52_eval_Op_eq (rec : Rec) (n : Nat) (a0 : Int) (a1 : Int) (a2 : Int) (a3 : List UInt8) (a4 : Int) (a5 : Int) (a6 : List UInt8) : callBody C rec n 52 [OV.flat (FV.val (PV.int .i64 a0)), OV.flat (FV.val (PV.agg [PV.int .i64 a1, PV.int .i64 a2, PV.str a3])), OV.flat (FV.val (PV.agg [PV.int .i64 a4, PV.int .i64 a5, PV.str a6]))] = f52_eval_Op rec n a0 a1 a2 a3 a4 a5 a6 := by kernel_rfl

noncomputable def f53_eval_one (rec : Rec) (n : Nat) (a0 : Int) (a1 : Int) (a2 : Int) (a3 : List UInt8) : Option (List OV × List OV) :=
  ifB (a0 == (6 : Int))
  (callB (rec 63 [OV.flat (FV.val (PV.bool (a1 == (0 : Int))))]) fun r1 => needB (okOs Go.Proofs.Tryd.prog [23, 42] [] (Prod.fst r1)) <|
  some ([OV.flat (FV.val (PV.agg [PV.int .i64 (PV.toI (List.headD (PV.cells (FV.pv (OV.fv (List.headD (Prod.fst r1) (OV.flat FV.gone))))) PV.undef)), PV.int .i64 (PV.toI (List.headD (List.tail (PV.cells (FV.pv (OV.fv (List.headD (Prod.fst r1) (OV.flat FV.gone)))))) PV.undef)), PV.str (PV.toS (List.headD (List.tail (List.tail (PV.cells (FV.pv (OV.fv (List.headD (Prod.fst r1) (OV.flat FV.gone))))))) PV.undef))])), OV.flat (FV.val (PV.int .i64 (PV.toI (FV.pv (OV.fv (List.headD (List.tail (Prod.fst r1)) (OV.flat FV.gone)))))))], []))
  (ifB (a1 == (0 : Int))
  (some ([OV.flat (FV.val (PV.agg [PV.int .i64 a1, PV.int .i64 a2, PV.str a3])), OV.flat (FV.val (PV.int .i64 (0 : Int)))], []))
  (ifB (a1 == (2 : Int))
  (some ([OV.flat (FV.val (PV.agg [PV.int .i64 (0 : Int), PV.int .i64 (0 : Int), PV.str ([] : List UInt8)])), OV.flat (FV.val (PV.int .i64 (9 : Int)))], []))
  (ifB (a0 == (4 : Int))
  (callB (rec 63 [OV.flat (FV.val (PV.bool (a2 == (0 : Int))))]) fun r2 => needB (okOs Go.Proofs.Tryd.prog [23, 42] [] (Prod.fst r2)) <|
  some ([OV.flat (FV.val (PV.agg [PV.int .i64 (PV.toI (List.headD (PV.cells (FV.pv (OV.fv (List.headD (Prod.fst r2) (OV.flat FV.gone))))) PV.undef)), PV.int .i64 (PV.toI (List.headD (List.tail (PV.cells (FV.pv (OV.fv (List.headD (Prod.fst r2) (OV.flat FV.gone)))))) PV.undef)), PV.str (PV.toS (List.headD (List.tail (List.tail (PV.cells (FV.pv (OV.fv (List.headD (Prod.fst r2) (OV.flat FV.gone))))))) PV.undef))])), OV.flat (FV.val (PV.int .i64 (PV.toI (FV.pv (OV.fv (List.headD (List.tail (Prod.fst r2)) (OV.flat FV.gone)))))))], []))
  (ifB (a2 == (-9223372036854775808 : Int))
  (some ([OV.flat (FV.val (PV.agg [PV.int .i64 (0 : Int), PV.int .i64 (0 : Int), PV.str ([] : List UInt8)])), OV.flat (FV.val (PV.int .i64 (7 : Int)))], []))
  (callB (rec 61 [OV.flat (FV.val (PV.int .i64 (IntKind.wrap .i64 ((0 : Int) - a2)))), OV.flat (FV.val (PV.int .i64 (0 : Int)))]) fun r3 => needB (okOs Go.Proofs.Tryd.prog [23, 42] [] (Prod.fst r3)) <|
  some ([OV.flat (FV.val (PV.agg [PV.int .i64 (PV.toI (List.headD (PV.cells (FV.pv (OV.fv (List.headD (Prod.fst r3) (OV.flat FV.gone))))) PV.undef)), PV.int .i64 (PV.toI (List.headD (List.tail (PV.cells (FV.pv (OV.fv (List.headD (Prod.fst r3) (OV.flat FV.gone)))))) PV.undef)), PV.str (PV.toS (List.headD (List.tail (List.tail (PV.cells (FV.pv (OV.fv (List.headD (Prod.fst r3) (OV.flat FV.gone))))))) PV.undef))])), OV.flat (FV.val (PV.int .i64 (PV.toI (FV.pv (OV.fv (List.headD (List.tail (Prod.fst r3)) (OV.flat FV.gone)))))))], []))))))

theorem f53_eval_one_eq (rec : Rec) (n : Nat) (a0 : Int) (a1 : Int) (a2 : Int) (a3 : List UInt8) : callBody C rec n 53 [OV.flat (FV.val (PV.int .i64 a0)), OV.flat (FV.val (PV.agg [PV.int .i64 a1, PV.int .i64 a2, PV.str a3]))] = f53_eval_one rec n a0 a1 a2 a3 := by kernel_rfl

noncomputable def f54_vestryref01_NumKey (rec : Rec) (n : Nat) (a0 : Int) : Option (List OV × List OV) :=
  callB (rec 64 [OV.flat (FV.val (PV.int .i64 a0))]) fun r1 => needB (okOs Go.Proofs.Tryd.prog [29] [.o] (Prod.fst r1)) <|
  needB (decide ((0 : Int) < ((List.length (FV.xs (OV.fv (List.headD (Prod.fst r1) (OV.flat FV.gone)))) : Nat) : Int))) <|
  needB (Nat.blt 0 (List.length (FV.xs (OV.fv (List.headD (Prod.fst r1) (OV.flat FV.gone)))))) <|
  needB (hasT Go.Proofs.Tryd.prog 5 (nthP (FV.xs (OV.fv (List.headD (Prod.fst r1) (OV.flat FV.gone)))) 0)) <|
  needB (decide ((0 : Int) < ((List.length (FV.xs (OV.fv (List.headD (Prod.fst r1) (OV.flat FV.gone)))) : Nat) : Int))) <|
  needB (Nat.blt 0 (List.length (FV.xs (OV.fv (List.headD (Prod.fst r1) (OV.flat FV.gone)))))) <|
  some ([OV.flat (FV.own none (List.set (FV.xs (OV.fv (List.headD (Prod.fst r1) (OV.flat FV.gone)))) 0 (PV.int .u8 (IntKind.wrap .u8 (((BitVec.toNat ((BitVec.ofInt (IntKind.bits .u8) (PV.toI (nthP (FV.xs (OV.fv (List.headD (Prod.fst r1) (OV.flat FV.gone)))) 0))) ^^^ (BitVec.ofInt (IntKind.bits .u8) (128 : Int))) : Nat) : Int))))) [])], [])

theorem f54_vestryref01_NumKey_eq (rec : Rec) (n : Nat) (a0 : Int) : callBody C rec n 54 [OV.flat (FV.val (PV.int .i64 a0))] = f54_vestryref01_NumKey rec n a0 := by kernel_rfl

noncomputable def f55_vestryref01_TextKey.l0.step (rec : Rec) (n : Nat) (self_l0 : List UInt8 → List PV → Int → Option (List OV × List OV)) (x0 : List UInt8) (x1 : List PV) (x2 : Int) : Option (List OV × List OV) :=
  ifB (decide (x2 < ((List.length x0 : Nat) : Int)))
  (needB (decide ((0 : Int) ≤ x2)) <|
  needB (decide (x2 < ((List.length x0 : Nat) : Int))) <|
  needB (Nat.ble ((List.length x1 + List.length [PV.int .u8 ((UInt8.toNat (List.getD x0 (Int.toNat x2) 0) : Nat) : Int)]) * 1) 140737488355328) <|
  needB (Nat.ble (List.length x1 + List.length [PV.int .u8 ((UInt8.toNat (List.getD x0 (Int.toNat x2) 0) : Nat) : Int)]) 9223372036854775807) <|
  needB (decide ((0 : Int) ≤ x2)) <|
  needB (decide (x2 < ((List.length x0 : Nat) : Int))) <|
  ifB (((UInt8.toNat (List.getD x0 (Int.toNat x2) 0) : Nat) : Int) == (0 : Int))
  (needB (Nat.ble ((List.length (x1 ++ [PV.int .u8 ((UInt8.toNat (List.getD x0 (Int.toNat x2) 0) : Nat) : Int)]) + List.length [PV.int .u8 (255 : Int)]) * 1) 140737488355328) <|
  needB (Nat.ble (List.length (x1 ++ [PV.int .u8 ((UInt8.toNat (List.getD x0 (Int.toNat x2) 0) : Nat) : Int)]) + List.length [PV.int .u8 (255 : Int)]) 9223372036854775807) <|
  self_l0 x0 ((x1 ++ [PV.int .u8 ((UInt8.toNat (List.getD x0 (Int.toNat x2) 0) : Nat) : Int)]) ++ [PV.int .u8 (255 : Int)]) (IntKind.wrap .i64 (x2 + (1 : Int))))
  (self_l0 x0 (x1 ++ [PV.int .u8 ((UInt8.toNat (List.getD x0 (Int.toNat x2) 0) : Nat) : Int)]) (IntKind.wrap .i64 (x2 + (1 : Int)))))
  (needB (Nat.ble ((List.length x1 + List.length [PV.int .u8 (0 : Int), PV.int .u8 (0 : Int)]) * 1) 140737488355328) <|
  needB (Nat.ble (List.length x1 + List.length [PV.int .u8 (0 : Int), PV.int .u8 (0 : Int)]) 9223372036854775807) <|
  some ([OV.flat (FV.own none (x1 ++ [PV.int .u8 (0 : Int), PV.int .u8 (0 : Int)]) [])], []))

noncomputable def f55_vestryref01_TextKey.l0 (rec : Rec) (n : Nat) : Nat → List UInt8 → List PV → Int → Option (List OV × List OV)
  | 0, _, _, _ => none
  | m + 1, x0, x1, x2 => f55_vestryref01_TextKey.l0.step rec n (f55_vestryref01_TextKey.l0 rec n m) x0 x1 x2

theorem f55_vestryref01_TextKey.l0_eq (rec : Rec) (n : Nat) : ∀ (m : Nat) (x0 : List UInt8) (x1 : List PV) (x2 : Int), loopAt C rec n 55 [1, 1, 0, 1, 0] [] m [(0, SV.home (OV.flat (FV.val (PV.str x0)))), (3, SV.home (OV.flat (FV.own none x1 []))), (4, SV.home (OV.flat (FV.val (PV.int .i64 x2))))] = f55_vestryref01_TextKey.l0 rec n m x0 x1 x2
  | 0, x0, x1, x2 => by kernel_rfl
  | m + 1, x0, x1, x2 => by
    have ih : (fun x0 x1 x2 => loopAt C rec n 55 [1, 1, 0, 1, 0] [] m [(0, SV.home (OV.flat (FV.val (PV.str x0)))), (3, SV.home (OV.flat (FV.own none x1 []))), (4, SV.home (OV.flat (FV.val (PV.int .i64 x2))))]) = f55_vestryref01_TextKey.l0 rec n m := funext fun x0 => funext fun x1 => funext fun x2 => f55_vestryref01_TextKey.l0_eq rec n m x0 x1 x2
    exact (show loopAt C rec n 55 [1, 1, 0, 1, 0] [] (m + 1) [(0, SV.home (OV.flat (FV.val (PV.str x0)))), (3, SV.home (OV.flat (FV.own none x1 []))), (4, SV.home (OV.flat (FV.val (PV.int .i64 x2))))] = f55_vestryref01_TextKey.l0.step rec n (fun x0 x1 x2 => loopAt C rec n 55 [1, 1, 0, 1, 0] [] m [(0, SV.home (OV.flat (FV.val (PV.str x0)))), (3, SV.home (OV.flat (FV.own none x1 []))), (4, SV.home (OV.flat (FV.val (PV.int .i64 x2))))]) x0 x1 x2 from by kernel_rfl).trans (by rw [ih]; rfl)

noncomputable def f55_vestryref01_TextKey.pre (rec : Rec) (n : Nat) (l0 : List UInt8 → List PV → Int → Option (List OV × List OV)) (a0 : List UInt8) : Option (List OV × List OV) :=
  l0 a0 [] (0 : Int)

noncomputable def f55_vestryref01_TextKey (rec : Rec) (n : Nat) (a0 : List UInt8) : Option (List OV × List OV) := f55_vestryref01_TextKey.pre rec n (f55_vestryref01_TextKey.l0 rec n n) a0

theorem f55_vestryref01_TextKey_eq (rec : Rec) (n : Nat) (a0 : List UInt8) : callBody C rec n 55 [OV.flat (FV.val (PV.str a0))] = f55_vestryref01_TextKey rec n a0 := by
  have i0 : (fun x0 x1 x2 => loopAt C rec n 55 [1, 1, 0, 1, 0] [] n [(0, SV.home (OV.flat (FV.val (PV.str x0)))), (3, SV.home (OV.flat (FV.own none x1 []))), (4, SV.home (OV.flat (FV.val (PV.int .i64 x2))))]) = f55_vestryref01_TextKey.l0 rec n n := funext fun x0 => funext fun x1 => funext fun x2 => f55_vestryref01_TextKey.l0_eq rec n n x0 x1 x2
  exact (show callBody C rec n 55 [OV.flat (FV.val (PV.str a0))] = f55_vestryref01_TextKey.pre rec n (fun x0 x1 x2 => loopAt C rec n 55 [1, 1, 0, 1, 0] [] n [(0, SV.home (OV.flat (FV.val (PV.str x0)))), (3, SV.home (OV.flat (FV.own none x1 []))), (4, SV.home (OV.flat (FV.val (PV.int .i64 x2))))]) a0 from by kernel_rfl).trans (by rw [i0]; rfl)

noncomputable def f56_plain_put.l0.step (rec : Rec) (n : Nat) (self_l0 : List PV → Int → Int → Option (List OV × List OV)) (x0 : List PV) (x1 : Int) (x2 : Int) : Option (List OV × List OV) :=
  ifB (decide (x2 ≥ (0 : Int)))
  (needB (decide ((0 : Int) ≤ x2)) <|
  needB (Nat.ble ((List.length x0 + List.length [PV.int .u8 (IntKind.wrap .u8 (Int.fdiv x1 ((2 : Int) ^ (min (Int.toNat x2) (IntKind.bits .i64)))))]) * 1) 140737488355328) <|
  needB (Nat.ble (List.length x0 + List.length [PV.int .u8 (IntKind.wrap .u8 (Int.fdiv x1 ((2 : Int) ^ (min (Int.toNat x2) (IntKind.bits .i64)))))]) 9223372036854775807) <|
  self_l0 (x0 ++ [PV.int .u8 (IntKind.wrap .u8 (Int.fdiv x1 ((2 : Int) ^ (min (Int.toNat x2) (IntKind.bits .i64)))))]) x1 (IntKind.wrap .i64 (x2 - (8 : Int))))
  (some ([OV.flat (FV.own none x0 [])], [OV.flat FV.gone, OV.flat FV.gone, OV.flat FV.gone]))

noncomputable def f56_plain_put.l0 (rec : Rec) (n : Nat) : Nat → List PV → Int → Int → Option (List OV × List OV)
  | 0, _, _, _ => none
  | m + 1, x0, x1, x2 => f56_plain_put.l0.step rec n (f56_plain_put.l0 rec n m) x0 x1 x2

theorem f56_plain_put.l0_eq (rec : Rec) (n : Nat) : ∀ (m : Nat) (x0 : List PV) (x1 : Int) (x2 : Int), loopAt C rec n 56 [1, 0, 1, 0] [] m [(0, SV.home (OV.flat (FV.own none x0 []))), (1, SV.home (OV.flat (FV.val (PV.int .i64 x1)))), (7, SV.home (OV.flat (FV.val (PV.int .i64 x2))))] = f56_plain_put.l0 rec n m x0 x1 x2
  | 0, x0, x1, x2 => by kernel_rfl
  | m + 1, x0, x1, x2 => by
    have ih : (fun x0 x1 x2 => loopAt C rec n 56 [1, 0, 1, 0] [] m [(0, SV.home (OV.flat (FV.own none x0 []))), (1, SV.home (OV.flat (FV.val (PV.int .i64 x1)))), (7, SV.home (OV.flat (FV.val (PV.int .i64 x2))))]) = f56_plain_put.l0 rec n m := funext fun x0 => funext fun x1 => funext fun x2 => f56_plain_put.l0_eq rec n m x0 x1 x2
    exact (show loopAt C rec n 56 [1, 0, 1, 0] [] (m + 1) [(0, SV.home (OV.flat (FV.own none x0 []))), (1, SV.home (OV.flat (FV.val (PV.int .i64 x1)))), (7, SV.home (OV.flat (FV.val (PV.int .i64 x2))))] = f56_plain_put.l0.step rec n (fun x0 x1 x2 => loopAt C rec n 56 [1, 0, 1, 0] [] m [(0, SV.home (OV.flat (FV.own none x0 []))), (1, SV.home (OV.flat (FV.val (PV.int .i64 x1)))), (7, SV.home (OV.flat (FV.val (PV.int .i64 x2))))]) x0 x1 x2 from by kernel_rfl).trans (by rw [ih]; rfl)

noncomputable def f56_plain_put.pre (rec : Rec) (n : Nat) (l0 : List PV → Int → Int → Option (List OV × List OV)) (a0 : List PV) (a1 : Int) (a2 : Int) : Option (List OV × List OV) :=
  l0 a0 a1 (IntKind.wrap .i64 ((8 : Int) * IntKind.wrap .i64 (a2 - (1 : Int))))

noncomputable def f56_plain_put (rec : Rec) (n : Nat) (a0 : List PV) (a1 : Int) (a2 : Int) : Option (List OV × List OV) := f56_plain_put.pre rec n (f56_plain_put.l0 rec n n) a0 a1 a2

theorem f56_plain_put_eq (rec : Rec) (n : Nat) (a0 : List PV) (a1 : Int) (a2 : Int) : callBody C rec n 56 [OV.flat (FV.own none a0 []), OV.flat (FV.val (PV.int .i64 a1)), OV.flat (FV.val (PV.int .i64 a2))] = f56_plain_put rec n a0 a1 a2 := by
  have i0 : (fun x0 x1 x2 => loopAt C rec n 56 [1, 0, 1, 0] [] n [(0, SV.home (OV.flat (FV.own none x0 []))), (1, SV.home (OV.flat (FV.val (PV.int .i64 x1)))), (7, SV.home (OV.flat (FV.val (PV.int .i64 x2))))]) = f56_plain_put.l0 rec n n := funext fun x0 => funext fun x1 => funext fun x2 => f56_plain_put.l0_eq rec n n x0 x1 x2
  exact (show callBody C rec n 56 [OV.flat (FV.own none a0 []), OV.flat (FV.val (PV.int .i64 a1)), OV.flat (FV.val (PV.int .i64 a2))] = f56_plain_put.pre rec n (fun x0 x1 x2 => loopAt C rec n 56 [1, 0, 1, 0] [] n [(0, SV.home (OV.flat (FV.own none x0 []))), (1, SV.home (OV.flat (FV.val (PV.int .i64 x1)))), (7, SV.home (OV.flat (FV.val (PV.int .i64 x2))))]) a0 a1 a2 from by kernel_rfl).trans (by rw [i0]; rfl)

noncomputable def f57_bytes_Replace.l0.step (rec : Rec) (n : Nat) (self_l0 : List PV → List PV → List PV → List PV → Int → Int → Int → Int → Option (List OV × List OV)) (x0 : List PV) (x1 : List PV) (x2 : List PV) (x3 : List PV) (x4 : Int) (x5 : Int) (x6 : Int) (x7 : Int) : Option (List OV × List OV) :=
  ifB (decide (x7 < x6))
  (needB (decide ((0 : Int) ≤ x5)) <|
  needB (decide (x5 ≤ ((List.length x0 : Nat) : Int))) <|
  callB (rec 66 [OV.flat (FV.val (PV.sl none (List.drop (Int.toNat x5) x0))), OV.flat (FV.val (PV.sl none x1))]) fun r2 => needB (okOs Go.Proofs.Tryd.prog [3] [] (Prod.fst r2)) <|
  needB (decide ((0 : Int) ≤ x4)) <|
  needB (decide (x4 ≤ ((List.length x3 : Nat) : Int))) <|
  needB (decide ((0 : Int) ≤ x5)) <|
  needB (decide (x5 ≤ IntKind.wrap .i64 (x5 + PV.toI (FV.pv (OV.fv (List.headD (Prod.fst r2) (OV.flat FV.gone))))))) <|
  needB (decide (IntKind.wrap .i64 (x5 + PV.toI (FV.pv (OV.fv (List.headD (Prod.fst r2) (OV.flat FV.gone))))) ≤ ((List.length x0 : Nat) : Int))) <|
  needB (Nat.blt 0 (List.length x3)) <|
  needB (decide ((0 : Int) ≤ IntKind.wrap .i64 (x4 + ((Nat.min (List.length (List.drop (Int.toNat x5) (List.take (Int.toNat (IntKind.wrap .i64 (x5 + PV.toI (FV.pv (OV.fv (List.headD (Prod.fst r2) (OV.flat FV.gone))))))) x0))) ((List.length x3) - (Int.toNat x4)) : Nat) : Int)))) <|
  needB (decide (IntKind.wrap .i64 (x4 + ((Nat.min (List.length (List.drop (Int.toNat x5) (List.take (Int.toNat (IntKind.wrap .i64 (x5 + PV.toI (FV.pv (OV.fv (List.headD (Prod.fst r2) (OV.flat FV.gone))))))) x0))) ((List.length x3) - (Int.toNat x4)) : Nat) : Int)) ≤ ((List.length (List.take (Int.toNat x4) x3 ++ List.take (Nat.min (List.length (List.drop (Int.toNat x5) (List.take (Int.toNat (IntKind.wrap .i64 (x5 + PV.toI (FV.pv (OV.fv (List.headD (Prod.fst r2) (OV.flat FV.gone))))))) x0))) ((List.length x3) - (Int.toNat x4))) (List.drop (Int.toNat x5) (List.take (Int.toNat (IntKind.wrap .i64 (x5 + PV.toI (FV.pv (OV.fv (List.headD (Prod.fst r2) (OV.flat FV.gone))))))) x0)) ++ List.drop ((Int.toNat x4) + Nat.min (List.length (List.drop (Int.toNat x5) (List.take (Int.toNat (IntKind.wrap .i64 (x5 + PV.toI (FV.pv (OV.fv (List.headD (Prod.fst r2) (OV.flat FV.gone))))))) x0))) ((List.length x3) - (Int.toNat x4))) x3) : Nat) : Int))) <|
  needB (Nat.blt 0 (List.length (List.take (Int.toNat x4) x3 ++ List.take (Nat.min (List.length (List.drop (Int.toNat x5) (List.take (Int.toNat (IntKind.wrap .i64 (x5 + PV.toI (FV.pv (OV.fv (List.headD (Prod.fst r2) (OV.flat FV.gone))))))) x0))) ((List.length x3) - (Int.toNat x4))) (List.drop (Int.toNat x5) (List.take (Int.toNat (IntKind.wrap .i64 (x5 + PV.toI (FV.pv (OV.fv (List.headD (Prod.fst r2) (OV.flat FV.gone))))))) x0)) ++ List.drop ((Int.toNat x4) + Nat.min (List.length (List.drop (Int.toNat x5) (List.take (Int.toNat (IntKind.wrap .i64 (x5 + PV.toI (FV.pv (OV.fv (List.headD (Prod.fst r2) (OV.flat FV.gone))))))) x0))) ((List.length x3) - (Int.toNat x4))) x3))) <|
  self_l0 x0 x1 x2 (List.take (Int.toNat (IntKind.wrap .i64 (x4 + ((Nat.min (List.length (List.drop (Int.toNat x5) (List.take (Int.toNat (IntKind.wrap .i64 (x5 + PV.toI (FV.pv (OV.fv (List.headD (Prod.fst r2) (OV.flat FV.gone))))))) x0))) ((List.length x3) - (Int.toNat x4)) : Nat) : Int)))) (List.take (Int.toNat x4) x3 ++ List.take (Nat.min (List.length (List.drop (Int.toNat x5) (List.take (Int.toNat (IntKind.wrap .i64 (x5 + PV.toI (FV.pv (OV.fv (List.headD (Prod.fst r2) (OV.flat FV.gone))))))) x0))) ((List.length x3) - (Int.toNat x4))) (List.drop (Int.toNat x5) (List.take (Int.toNat (IntKind.wrap .i64 (x5 + PV.toI (FV.pv (OV.fv (List.headD (Prod.fst r2) (OV.flat FV.gone))))))) x0)) ++ List.drop ((Int.toNat x4) + Nat.min (List.length (List.drop (Int.toNat x5) (List.take (Int.toNat (IntKind.wrap .i64 (x5 + PV.toI (FV.pv (OV.fv (List.headD (Prod.fst r2) (OV.flat FV.gone))))))) x0))) ((List.length x3) - (Int.toNat x4))) x3) ++ List.take (Nat.min (List.length x2) ((List.length (List.take (Int.toNat x4) x3 ++ List.take (Nat.min (List.length (List.drop (Int.toNat x5) (List.take (Int.toNat (IntKind.wrap .i64 (x5 + PV.toI (FV.pv (OV.fv (List.headD (Prod.fst r2) (OV.flat FV.gone))))))) x0))) ((List.length x3) - (Int.toNat x4))) (List.drop (Int.toNat x5) (List.take (Int.toNat (IntKind.wrap .i64 (x5 + PV.toI (FV.pv (OV.fv (List.headD (Prod.fst r2) (OV.flat FV.gone))))))) x0)) ++ List.drop ((Int.toNat x4) + Nat.min (List.length (List.drop (Int.toNat x5) (List.take (Int.toNat (IntKind.wrap .i64 (x5 + PV.toI (FV.pv (OV.fv (List.headD (Prod.fst r2) (OV.flat FV.gone))))))) x0))) ((List.length x3) - (Int.toNat x4))) x3)) - (Int.toNat (IntKind.wrap .i64 (x4 + ((Nat.min (List.length (List.drop (Int.toNat x5) (List.take (Int.toNat (IntKind.wrap .i64 (x5 + PV.toI (FV.pv (OV.fv (List.headD (Prod.fst r2) (OV.flat FV.gone))))))) x0))) ((List.length x3) - (Int.toNat x4)) : Nat) : Int)))))) x2 ++ List.drop ((Int.toNat (IntKind.wrap .i64 (x4 + ((Nat.min (List.length (List.drop (Int.toNat x5) (List.take (Int.toNat (IntKind.wrap .i64 (x5 + PV.toI (FV.pv (OV.fv (List.headD (Prod.fst r2) (OV.flat FV.gone))))))) x0))) ((List.length x3) - (Int.toNat x4)) : Nat) : Int)))) + Nat.min (List.length x2) ((List.length (List.take (Int.toNat x4) x3 ++ List.take (Nat.min (List.length (List.drop (Int.toNat x5) (List.take (Int.toNat (IntKind.wrap .i64 (x5 + PV.toI (FV.pv (OV.fv (List.headD (Prod.fst r2) (OV.flat FV.gone))))))) x0))) ((List.length x3) - (Int.toNat x4))) (List.drop (Int.toNat x5) (List.take (Int.toNat (IntKind.wrap .i64 (x5 + PV.toI (FV.pv (OV.fv (List.headD (Prod.fst r2) (OV.flat FV.gone))))))) x0)) ++ List.drop ((Int.toNat x4) + Nat.min (List.length (List.drop (Int.toNat x5) (List.take (Int.toNat (IntKind.wrap .i64 (x5 + PV.toI (FV.pv (OV.fv (List.headD (Prod.fst r2) (OV.flat FV.gone))))))) x0))) ((List.length x3) - (Int.toNat x4))) x3)) - (Int.toNat (IntKind.wrap .i64 (x4 + ((Nat.min (List.length (List.drop (Int.toNat x5) (List.take (Int.toNat (IntKind.wrap .i64 (x5 + PV.toI (FV.pv (OV.fv (List.headD (Prod.fst r2) (OV.flat FV.gone))))))) x0))) ((List.length x3) - (Int.toNat x4)) : Nat) : Int)))))) (List.take (Int.toNat x4) x3 ++ List.take (Nat.min (List.length (List.drop (Int.toNat x5) (List.take (Int.toNat (IntKind.wrap .i64 (x5 + PV.toI (FV.pv (OV.fv (List.headD (Prod.fst r2) (OV.flat FV.gone))))))) x0))) ((List.length x3) - (Int.toNat x4))) (List.drop (Int.toNat x5) (List.take (Int.toNat (IntKind.wrap .i64 (x5 + PV.toI (FV.pv (OV.fv (List.headD (Prod.fst r2) (OV.flat FV.gone))))))) x0)) ++ List.drop ((Int.toNat x4) + Nat.min (List.length (List.drop (Int.toNat x5) (List.take (Int.toNat (IntKind.wrap .i64 (x5 + PV.toI (FV.pv (OV.fv (List.headD (Prod.fst r2) (OV.flat FV.gone))))))) x0))) ((List.length x3) - (Int.toNat x4))) x3)) (IntKind.wrap .i64 (IntKind.wrap .i64 (x4 + ((Nat.min (List.length (List.drop (Int.toNat x5) (List.take (Int.toNat (IntKind.wrap .i64 (x5 + PV.toI (FV.pv (OV.fv (List.headD (Prod.fst r2) (OV.flat FV.gone))))))) x0))) ((List.length x3) - (Int.toNat x4)) : Nat) : Int)) + ((Nat.min (List.length x2) ((List.length (List.take (Int.toNat x4) x3 ++ List.take (Nat.min (List.length (List.drop (Int.toNat x5) (List.take (Int.toNat (IntKind.wrap .i64 (x5 + PV.toI (FV.pv (OV.fv (List.headD (Prod.fst r2) (OV.flat FV.gone))))))) x0))) ((List.length x3) - (Int.toNat x4))) (List.drop (Int.toNat x5) (List.take (Int.toNat (IntKind.wrap .i64 (x5 + PV.toI (FV.pv (OV.fv (List.headD (Prod.fst r2) (OV.flat FV.gone))))))) x0)) ++ List.drop ((Int.toNat x4) + Nat.min (List.length (List.drop (Int.toNat x5) (List.take (Int.toNat (IntKind.wrap .i64 (x5 + PV.toI (FV.pv (OV.fv (List.headD (Prod.fst r2) (OV.flat FV.gone))))))) x0))) ((List.length x3) - (Int.toNat x4))) x3)) - (Int.toNat (IntKind.wrap .i64 (x4 + ((Nat.min (List.length (List.drop (Int.toNat x5) (List.take (Int.toNat (IntKind.wrap .i64 (x5 + PV.toI (FV.pv (OV.fv (List.headD (Prod.fst r2) (OV.flat FV.gone))))))) x0))) ((List.length x3) - (Int.toNat x4)) : Nat) : Int))))) : Nat) : Int))) (IntKind.wrap .i64 (IntKind.wrap .i64 (x5 + PV.toI (FV.pv (OV.fv (List.headD (Prod.fst r2) (OV.flat FV.gone))))) + ((List.length x1 : Nat) : Int))) x6 (IntKind.wrap .i64 (x7 + (1 : Int))))
  (needB (decide ((0 : Int) ≤ x4)) <|
  needB (decide (x4 ≤ ((List.length x3 : Nat) : Int))) <|
  needB (decide ((0 : Int) ≤ x5)) <|
  needB (decide (x5 ≤ ((List.length x0 : Nat) : Int))) <|
  needB (Nat.blt 0 (List.length x3)) <|
  needB (decide ((0 : Int) ≤ IntKind.wrap .i64 (x4 + ((Nat.min (List.length (List.drop (Int.toNat x5) x0)) ((List.length x3) - (Int.toNat x4)) : Nat) : Int)))) <|
  needB (decide (IntKind.wrap .i64 (x4 + ((Nat.min (List.length (List.drop (Int.toNat x5) x0)) ((List.length x3) - (Int.toNat x4)) : Nat) : Int)) ≤ ((List.length (List.take (Int.toNat x4) x3 ++ List.take (Nat.min (List.length (List.drop (Int.toNat x5) x0)) ((List.length x3) - (Int.toNat x4))) (List.drop (Int.toNat x5) x0) ++ List.drop ((Int.toNat x4) + Nat.min (List.length (List.drop (Int.toNat x5) x0)) ((List.length x3) - (Int.toNat x4))) x3) : Nat) : Int))) <|
  some ([OV.flat (FV.own none (List.take (Int.toNat (IntKind.wrap .i64 (x4 + ((Nat.min (List.length (List.drop (Int.toNat x5) x0)) ((List.length x3) - (Int.toNat x4)) : Nat) : Int)))) (List.take (Int.toNat x4) x3 ++ List.take (Nat.min (List.length (List.drop (Int.toNat x5) x0)) ((List.length x3) - (Int.toNat x4))) (List.drop (Int.toNat x5) x0) ++ List.drop ((Int.toNat x4) + Nat.min (List.length (List.drop (Int.toNat x5) x0)) ((List.length x3) - (Int.toNat x4))) x3)) [])], []))

noncomputable def f57_bytes_Replace.l0 (rec : Rec) (n : Nat) : Nat → List PV → List PV → List PV → List PV → Int → Int → Int → Int → Option (List OV × List OV)
  | 0, _, _, _, _, _, _, _, _ => none
  | m + 1, x0, x1, x2, x3, x4, x5, x6, x7 => f57_bytes_Replace.l0.step rec n (f57_bytes_Replace.l0 rec n m) x0 x1 x2 x3 x4 x5 x6 x7

theorem f57_bytes_Replace.l0_eq (rec : Rec) (n : Nat) : ∀ (m : Nat) (x0 : List PV) (x1 : List PV) (x2 : List PV) (x3 : List PV) (x4 : Int) (x5 : Int) (x6 : Int) (x7 : Int), loopAt C rec n 57 [1, 1, 1, 1, 1, 1, 1, 1, 0, 1, 0, 1, 0] [] m [(0, SV.home (OV.flat (FV.val (PV.sl none x0)))), (1, SV.home (OV.flat (FV.val (PV.sl none x1)))), (2, SV.home (OV.flat (FV.val (PV.sl none x2)))), (10, SV.home (OV.flat (FV.own none x3 []))), (11, SV.home (OV.flat (FV.val (PV.int .i64 x4)))), (12, SV.home (OV.flat (FV.val (PV.int .i64 x5)))), (48, SV.home (OV.flat (FV.val (PV.int .i64 x6)))), (49, SV.home (OV.flat (FV.val (PV.int .i64 x7))))] = f57_bytes_Replace.l0 rec n m x0 x1 x2 x3 x4 x5 x6 x7
  | 0, x0, x1, x2, x3, x4, x5, x6, x7 => by kernel_rfl
  | m + 1, x0, x1, x2, x3, x4, x5, x6, x7 => by
    have ih : (fun x0 x1 x2 x3 x4 x5 x6 x7 => loopAt C rec n 57 [1, 1, 1, 1, 1, 1, 1, 1, 0, 1, 0, 1, 0] [] m [(0, SV.home (OV.flat (FV.val (PV.sl none x0)))), (1, SV.home (OV.flat (FV.val (PV.sl none x1)))), (2, SV.home (OV.flat (FV.val (PV.sl none x2)))), (10, SV.home (OV.flat (FV.own none x3 []))), (11, SV.home (OV.flat (FV.val (PV.int .i64 x4)))), (12, SV.home (OV.flat (FV.val (PV.int .i64 x5)))), (48, SV.home (OV.flat (FV.val (PV.int .i64 x6)))), (49, SV.home (OV.flat (FV.val (PV.int .i64 x7))))]) = f57_bytes_Replace.l0 rec n m := funext fun x0 => funext fun x1 => funext fun x2 => funext fun x3 => funext fun x4 => funext fun x5 => funext fun x6 => funext fun x7 => f57_bytes_Replace.l0_eq rec n m x0 x1 x2 x3 x4 x5 x6 x7
    exact (show loopAt C rec n 57 [1, 1, 1, 1, 1, 1, 1, 1, 0, 1, 0, 1, 0] [] (m + 1) [(0, SV.home (OV.flat (FV.val (PV.sl none x0)))), (1, SV.home (OV.flat (FV.val (PV.sl none x1)))), (2, SV.home (OV.flat (FV.val (PV.sl none x2)))), (10, SV.home (OV.flat (FV.own none x3 []))), (11, SV.home (OV.flat (FV.val (PV.int .i64 x4)))), (12, SV.home (OV.flat (FV.val (PV.int .i64 x5)))), (48, SV.home (OV.flat (FV.val (PV.int .i64 x6)))), (49, SV.home (OV.flat (FV.val (PV.int .i64 x7))))] = f57_bytes_Replace.l0.step rec n (fun x0 x1 x2 x3 x4 x5 x6 x7 => loopAt C rec n 57 [1, 1, 1, 1, 1, 1, 1, 1, 0, 1, 0, 1, 0] [] m [(0, SV.home (OV.flat (FV.val (PV.sl none x0)))), (1, SV.home (OV.flat (FV.val (PV.sl none x1)))), (2, SV.home (OV.flat (FV.val (PV.sl none x2)))), (10, SV.home (OV.flat (FV.own none x3 []))), (11, SV.home (OV.flat (FV.val (PV.int .i64 x4)))), (12, SV.home (OV.flat (FV.val (PV.int .i64 x5)))), (48, SV.home (OV.flat (FV.val (PV.int .i64 x6)))), (49, SV.home (OV.flat (FV.val (PV.int .i64 x7))))]) x0 x1 x2 x3 x4 x5 x6 x7 from by kernel_rfl).trans (by rw [ih]; rfl)

noncomputable def f57_bytes_Replace.pre (rec : Rec) (n : Nat) (l0 : List PV → List PV → List PV → List PV → Int → Int → Int → Int → Option (List OV × List OV)) (a0 : List PV) (a1 : Int) (a2 : Int) (a3 : Int) : Option (List OV × List OV) :=
  callB (rec 65 [OV.flat (FV.val (PV.sl none a0)), OV.flat (FV.val (PV.sl none [PV.int .u8 a1]))]) fun r1 => needB (okOs Go.Proofs.Tryd.prog [3] [] (Prod.fst r1)) <|
  ifB (PV.toI (FV.pv (OV.fv (List.headD (Prod.fst r1) (OV.flat FV.gone)))) == (0 : Int))
  (needB (Nat.ble ((List.length ([] : List PV) + List.length a0) * 1) 140737488355328) <|
  needB (Nat.ble (List.length ([] : List PV) + List.length a0) 9223372036854775807) <|
  some ([OV.flat (FV.own none ([] ++ a0) [])], []))
  (needB (decide ((0 : Int) ≤ IntKind.wrap .i64 (((List.length a0 : Nat) : Int) + IntKind.wrap .i64 (PV.toI (FV.pv (OV.fv (List.headD (Prod.fst r1) (OV.flat FV.gone)))) * (1 : Int))))) <|
  needB (IntKind.wrap .i64 (((List.length a0 : Nat) : Int) + IntKind.wrap .i64 (PV.toI (FV.pv (OV.fv (List.headD (Prod.fst r1) (OV.flat FV.gone)))) * (1 : Int))) == IntKind.wrap .i64 (((List.length a0 : Nat) : Int) + IntKind.wrap .i64 (PV.toI (FV.pv (OV.fv (List.headD (Prod.fst r1) (OV.flat FV.gone)))) * (1 : Int)))) <|
  needB (Nat.ble (1 * (Int.toNat (IntKind.wrap .i64 (((List.length a0 : Nat) : Int) + IntKind.wrap .i64 (PV.toI (FV.pv (OV.fv (List.headD (Prod.fst r1) (OV.flat FV.gone)))) * (1 : Int)))))) 140737488355328) <|
  needB (Nat.ble (Int.toNat (IntKind.wrap .i64 (((List.length a0 : Nat) : Int) + IntKind.wrap .i64 (PV.toI (FV.pv (OV.fv (List.headD (Prod.fst r1) (OV.flat FV.gone)))) * (1 : Int))))) 9223372036854775807) <|
  l0 a0 [PV.int .u8 a1] [PV.int .u8 a2, PV.int .u8 a3] (List.replicate (Int.toNat (IntKind.wrap .i64 (((List.length a0 : Nat) : Int) + IntKind.wrap .i64 (PV.toI (FV.pv (OV.fv (List.headD (Prod.fst r1) (OV.flat FV.gone)))) * (1 : Int))))) (PV.int .u8 (0 : Int))) (0 : Int) (0 : Int) (PV.toI (FV.pv (OV.fv (List.headD (Prod.fst r1) (OV.flat FV.gone))))) (0 : Int))

noncomputable def f57_bytes_Replace (rec : Rec) (n : Nat) (a0 : List PV) (a1 : Int) (a2 : Int) (a3 : Int) : Option (List OV × List OV) := f57_bytes_Replace.pre rec n (f57_bytes_Replace.l0 rec n n) a0 a1 a2 a3

theorem f57_bytes_Replace_eq (rec : Rec) (n : Nat) (a0 : List PV) (a1 : Int) (a2 : Int) (a3 : Int) : callBody C rec n 57 [OV.flat (FV.val (PV.sl none a0)), OV.flat (FV.val (PV.sl none [PV.int .u8 a1])), OV.flat (FV.val (PV.sl none [PV.int .u8 a2, PV.int .u8 a3])), OV.flat (FV.val (PV.int .i64 (-1 : Int)))] = f57_bytes_Replace rec n a0 a1 a2 a3 := by
  have i0 : (fun x0 x1 x2 x3 x4 x5 x6 x7 => loopAt C rec n 57 [1, 1, 1, 1, 1, 1, 1, 1, 0, 1, 0, 1, 0] [] n [(0, SV.home (OV.flat (FV.val (PV.sl none x0)))), (1, SV.home (OV.flat (FV.val (PV.sl none x1)))), (2, SV.home (OV.flat (FV.val (PV.sl none x2)))), (10, SV.home (OV.flat (FV.own none x3 []))), (11, SV.home (OV.flat (FV.val (PV.int .i64 x4)))), (12, SV.home (OV.flat (FV.val (PV.int .i64 x5)))), (48, SV.home (OV.flat (FV.val (PV.int .i64 x6)))), (49, SV.home (OV.flat (FV.val (PV.int .i64 x7))))]) = f57_bytes_Replace.l0 rec n n := funext fun x0 => funext fun x1 => funext fun x2 => funext fun x3 => funext fun x4 => funext fun x5 => funext fun x6 => funext fun x7 => f57_bytes_Replace.l0_eq rec n n x0 x1 x2 x3 x4 x5 x6 x7
  exact (show callBody C rec n 57 [OV.flat (FV.val (PV.sl none a0)), OV.flat (FV.val (PV.sl none [PV.int .u8 a1])), OV.flat (FV.val (PV.sl none [PV.int .u8 a2, PV.int .u8 a3])), OV.flat (FV.val (PV.int .i64 (-1 : Int)))] = f57_bytes_Replace.pre rec n (fun x0 x1 x2 x3 x4 x5 x6 x7 => loopAt C rec n 57 [1, 1, 1, 1, 1, 1, 1, 1, 0, 1, 0, 1, 0] [] n [(0, SV.home (OV.flat (FV.val (PV.sl none x0)))), (1, SV.home (OV.flat (FV.val (PV.sl none x1)))), (2, SV.home (OV.flat (FV.val (PV.sl none x2)))), (10, SV.home (OV.flat (FV.own none x3 []))), (11, SV.home (OV.flat (FV.val (PV.int .i64 x4)))), (12, SV.home (OV.flat (FV.val (PV.int .i64 x5)))), (48, SV.home (OV.flat (FV.val (PV.int .i64 x6)))), (49, SV.home (OV.flat (FV.val (PV.int .i64 x7))))]) a0 a1 a2 a3 from by kernel_rfl).trans (by rw [i0]; rfl)

noncomputable def f59_eval_logic (rec : Rec) (n : Nat) (a0 : Int) (a1 : Int) (a2 : Int) (a3 : List UInt8) (a4 : Int) (a5 : Int) (a6 : List UInt8) : Option (List OV × List OV) :=
  ifB (a0 == (2 : Int))
  (ifB (a1 == (2 : Int))
  (some ([OV.flat (FV.val (PV.agg [PV.int .i64 (0 : Int), PV.int .i64 (0 : Int), PV.str ([] : List UInt8)])), OV.flat (FV.val (PV.int .i64 (9 : Int)))], []))
  (ifB (a4 == (2 : Int))
  (some ([OV.flat (FV.val (PV.agg [PV.int .i64 (0 : Int), PV.int .i64 (0 : Int), PV.str ([] : List UInt8)])), OV.flat (FV.val (PV.int .i64 (9 : Int)))], []))
  (callB (rec 68 [OV.flat (FV.val (PV.agg [PV.int .i64 a1, PV.int .i64 a2, PV.str a3]))]) fun r1 => needB (okOs Go.Proofs.Tryd.prog [4] [] (Prod.fst r1)) <|
  ifB (PV.toB (FV.pv (OV.fv (List.headD (Prod.fst r1) (OV.flat FV.gone)))))
  (some ([OV.flat (FV.val (PV.agg [PV.int .i64 (1 : Int), PV.int .i64 (0 : Int), PV.str ([] : List UInt8)])), OV.flat (FV.val (PV.int .i64 (0 : Int)))], []))
  (callB (rec 68 [OV.flat (FV.val (PV.agg [PV.int .i64 a4, PV.int .i64 a5, PV.str a6]))]) fun r2 => needB (okOs Go.Proofs.Tryd.prog [4] [] (Prod.fst r2)) <|
  ifB (PV.toB (FV.pv (OV.fv (List.headD (Prod.fst r2) (OV.flat FV.gone)))))
  (some ([OV.flat (FV.val (PV.agg [PV.int .i64 (1 : Int), PV.int .i64 (0 : Int), PV.str ([] : List UInt8)])), OV.flat (FV.val (PV.int .i64 (0 : Int)))], []))
  (ifB (a1 == (0 : Int))
  (some ([OV.flat (FV.val (PV.agg [PV.int .i64 (0 : Int), PV.int .i64 (0 : Int), PV.str ([] : List UInt8)])), OV.flat (FV.val (PV.int .i64 (0 : Int)))], []))
  (ifB (a4 == (0 : Int))
  (some ([OV.flat (FV.val (PV.agg [PV.int .i64 (0 : Int), PV.int .i64 (0 : Int), PV.str ([] : List UInt8)])), OV.flat (FV.val (PV.int .i64 (0 : Int)))], []))
  (some ([OV.flat (FV.val (PV.agg [PV.int .i64 (1 : Int), PV.int .i64 (1 : Int), PV.str ([] : List UInt8)])), OV.flat (FV.val (PV.int .i64 (0 : Int)))], []))))))))
  (ifB (a1 == (2 : Int))
  (some ([OV.flat (FV.val (PV.agg [PV.int .i64 (0 : Int), PV.int .i64 (0 : Int), PV.str ([] : List UInt8)])), OV.flat (FV.val (PV.int .i64 (9 : Int)))], []))
  (ifB (a4 == (2 : Int))
  (some ([OV.flat (FV.val (PV.agg [PV.int .i64 (0 : Int), PV.int .i64 (0 : Int), PV.str ([] : List UInt8)])), OV.flat (FV.val (PV.int .i64 (9 : Int)))], []))
  (callB (rec 42 [OV.flat (FV.val (PV.agg [PV.int .i64 a1, PV.int .i64 a2, PV.str a3]))]) fun r3 => needB (okOs Go.Proofs.Tryd.prog [4] [] (Prod.fst r3)) <|
  ifB (PV.toB (FV.pv (OV.fv (List.headD (Prod.fst r3) (OV.flat FV.gone)))))
  (some ([OV.flat (FV.val (PV.agg [PV.int .i64 (1 : Int), PV.int .i64 (1 : Int), PV.str ([] : List UInt8)])), OV.flat (FV.val (PV.int .i64 (0 : Int)))], []))
  (callB (rec 42 [OV.flat (FV.val (PV.agg [PV.int .i64 a4, PV.int .i64 a5, PV.str a6]))]) fun r4 => needB (okOs Go.Proofs.Tryd.prog [4] [] (Prod.fst r4)) <|
  ifB (PV.toB (FV.pv (OV.fv (List.headD (Prod.fst r4) (OV.flat FV.gone)))))
  (some ([OV.flat (FV.val (PV.agg [PV.int .i64 (1 : Int), PV.int .i64 (1 : Int), PV.str ([] : List UInt8)])), OV.flat (FV.val (PV.int .i64 (0 : Int)))], []))
  (ifB (a1 == (0 : Int))
  (some ([OV.flat (FV.val (PV.agg [PV.int .i64 (0 : Int), PV.int .i64 (0 : Int), PV.str ([] : List UInt8)])), OV.flat (FV.val (PV.int .i64 (0 : Int)))], []))
  (ifB (a4 == (0 : Int))
  (some ([OV.flat (FV.val (PV.agg [PV.int .i64 (0 : Int), PV.int .i64 (0 : Int), PV.str ([] : List UInt8)])), OV.flat (FV.val (PV.int .i64 (0 : Int)))], []))
  (some ([OV.flat (FV.val (PV.agg [PV.int .i64 (1 : Int), PV.int .i64 (0 : Int), PV.str ([] : List UInt8)])), OV.flat (FV.val (PV.int .i64 (0 : Int)))], []))))))))

theorem f59_eval_logic_eq (rec : Rec) (n : Nat) (a0 : Int) (a1 : Int) (a2 : Int) (a3 : List UInt8) (a4 : Int) (a5 : Int) (a6 : List UInt8) : callBody C rec n 59 [OV.flat (FV.val (PV.int .i64 a0)), OV.flat (FV.val (PV.agg [PV.int .i64 a1, PV.int .i64 a2, PV.str a3])), OV.flat (FV.val (PV.agg [PV.int .i64 a4, PV.int .i64 a5, PV.str a6]))] = f59_eval_logic rec n a0 a1 a2 a3 a4 a5 a6 := by kernel_rfl

noncomputable def f60_eval_test (rec : Rec) (n : Nat) (a0 : Int) (a1 : Int) (a2 : Int) (a3 : List UInt8) (a4 : Int) (a5 : Int) (a6 : List UInt8) : Option (List OV × List OV) :=
  ifB (a1 != a4)
  (some ([OV.flat (FV.val (PV.agg [PV.int .i64 (0 : Int), PV.int .i64 (0 : Int), PV.str ([] : List UInt8)])), OV.flat (FV.val (PV.int .i64 (9 : Int)))], []))
  (callB (rec 24 [OV.flat (FV.val (PV.agg [PV.int .i64 a1, PV.int .i64 a2, PV.str a3])), OV.flat (FV.val (PV.agg [PV.int .i64 a4, PV.int .i64 a5, PV.str a6]))]) fun r1 => needB (okOs Go.Proofs.Tryd.prog [3] [] (Prod.fst r1)) <|
  ifB (a0 == (4 : Int))
  (callB (rec 63 [OV.flat (FV.val (PV.bool (PV.toI (FV.pv (OV.fv (List.headD (Prod.fst r1) (OV.flat FV.gone)))) != (0 : Int))))]) fun r2 => needB (okOs Go.Proofs.Tryd.prog [23, 42] [] (Prod.fst r2)) <|
  some ([OV.flat (FV.val (PV.agg [PV.int .i64 (PV.toI (List.headD (PV.cells (FV.pv (OV.fv (List.headD (Prod.fst r2) (OV.flat FV.gone))))) PV.undef)), PV.int .i64 (PV.toI (List.headD (List.tail (PV.cells (FV.pv (OV.fv (List.headD (Prod.fst r2) (OV.flat FV.gone)))))) PV.undef)), PV.str (PV.toS (List.headD (List.tail (List.tail (PV.cells (FV.pv (OV.fv (List.headD (Prod.fst r2) (OV.flat FV.gone))))))) PV.undef))])), OV.flat (FV.val (PV.int .i64 (PV.toI (FV.pv (OV.fv (List.headD (List.tail (Prod.fst r2)) (OV.flat FV.gone)))))))], []))
  (ifB (a0 == (6 : Int))
  (ifB (PV.toI (FV.pv (OV.fv (List.headD (Prod.fst r1) (OV.flat FV.gone)))) == (0 : Int))
  (callB (rec 63 [OV.flat (FV.val (PV.bool true))]) fun r3 => needB (okOs Go.Proofs.Tryd.prog [23, 42] [] (Prod.fst r3)) <|
  some ([OV.flat (FV.val (PV.agg [PV.int .i64 (PV.toI (List.headD (PV.cells (FV.pv (OV.fv (List.headD (Prod.fst r3) (OV.flat FV.gone))))) PV.undef)), PV.int .i64 (PV.toI (List.headD (List.tail (PV.cells (FV.pv (OV.fv (List.headD (Prod.fst r3) (OV.flat FV.gone)))))) PV.undef)), PV.str (PV.toS (List.headD (List.tail (List.tail (PV.cells (FV.pv (OV.fv (List.headD (Prod.fst r3) (OV.flat FV.gone))))))) PV.undef))])), OV.flat (FV.val (PV.int .i64 (PV.toI (FV.pv (OV.fv (List.headD (List.tail (Prod.fst r3)) (OV.flat FV.gone)))))))], []))
  (callB (rec 63 [OV.flat (FV.val (PV.bool (decide (PV.toI (FV.pv (OV.fv (List.headD (Prod.fst r1) (OV.flat FV.gone)))) < (0 : Int)))))]) fun r4 => needB (okOs Go.Proofs.Tryd.prog [23, 42] [] (Prod.fst r4)) <|
  some ([OV.flat (FV.val (PV.agg [PV.int .i64 (PV.toI (List.headD (PV.cells (FV.pv (OV.fv (List.headD (Prod.fst r4) (OV.flat FV.gone))))) PV.undef)), PV.int .i64 (PV.toI (List.headD (List.tail (PV.cells (FV.pv (OV.fv (List.headD (Prod.fst r4) (OV.flat FV.gone)))))) PV.undef)), PV.str (PV.toS (List.headD (List.tail (List.tail (PV.cells (FV.pv (OV.fv (List.headD (Prod.fst r4) (OV.flat FV.gone))))))) PV.undef))])), OV.flat (FV.val (PV.int .i64 (PV.toI (FV.pv (OV.fv (List.headD (List.tail (Prod.fst r4)) (OV.flat FV.gone)))))))], [])))
  (ifB (a0 == (5 : Int))
  (callB (rec 63 [OV.flat (FV.val (PV.bool (decide (PV.toI (FV.pv (OV.fv (List.headD (Prod.fst r1) (OV.flat FV.gone)))) < (0 : Int)))))]) fun r5 => needB (okOs Go.Proofs.Tryd.prog [23, 42] [] (Prod.fst r5)) <|
  some ([OV.flat (FV.val (PV.agg [PV.int .i64 (PV.toI (List.headD (PV.cells (FV.pv (OV.fv (List.headD (Prod.fst r5) (OV.flat FV.gone))))) PV.undef)), PV.int .i64 (PV.toI (List.headD (List.tail (PV.cells (FV.pv (OV.fv (List.headD (Prod.fst r5) (OV.flat FV.gone)))))) PV.undef)), PV.str (PV.toS (List.headD (List.tail (List.tail (PV.cells (FV.pv (OV.fv (List.headD (Prod.fst r5) (OV.flat FV.gone))))))) PV.undef))])), OV.flat (FV.val (PV.int .i64 (PV.toI (FV.pv (OV.fv (List.headD (List.tail (Prod.fst r5)) (OV.flat FV.gone)))))))], []))
  (ifB (a0 == (8 : Int))
  (ifB (PV.toI (FV.pv (OV.fv (List.headD (Prod.fst r1) (OV.flat FV.gone)))) == (0 : Int))
  (callB (rec 63 [OV.flat (FV.val (PV.bool true))]) fun r6 => needB (okOs Go.Proofs.Tryd.prog [23, 42] [] (Prod.fst r6)) <|
  some ([OV.flat (FV.val (PV.agg [PV.int .i64 (PV.toI (List.headD (PV.cells (FV.pv (OV.fv (List.headD (Prod.fst r6) (OV.flat FV.gone))))) PV.undef)), PV.int .i64 (PV.toI (List.headD (List.tail (PV.cells (FV.pv (OV.fv (List.headD (Prod.fst r6) (OV.flat FV.gone)))))) PV.undef)), PV.str (PV.toS (List.headD (List.tail (List.tail (PV.cells (FV.pv (OV.fv (List.headD (Prod.fst r6) (OV.flat FV.gone))))))) PV.undef))])), OV.flat (FV.val (PV.int .i64 (PV.toI (FV.pv (OV.fv (List.headD (List.tail (Prod.fst r6)) (OV.flat FV.gone)))))))], []))
  (callB (rec 63 [OV.flat (FV.val (PV.bool (decide (PV.toI (FV.pv (OV.fv (List.headD (Prod.fst r1) (OV.flat FV.gone)))) > (0 : Int)))))]) fun r7 => needB (okOs Go.Proofs.Tryd.prog [23, 42] [] (Prod.fst r7)) <|
  some ([OV.flat (FV.val (PV.agg [PV.int .i64 (PV.toI (List.headD (PV.cells (FV.pv (OV.fv (List.headD (Prod.fst r7) (OV.flat FV.gone))))) PV.undef)), PV.int .i64 (PV.toI (List.headD (List.tail (PV.cells (FV.pv (OV.fv (List.headD (Prod.fst r7) (OV.flat FV.gone)))))) PV.undef)), PV.str (PV.toS (List.headD (List.tail (List.tail (PV.cells (FV.pv (OV.fv (List.headD (Prod.fst r7) (OV.flat FV.gone))))))) PV.undef))])), OV.flat (FV.val (PV.int .i64 (PV.toI (FV.pv (OV.fv (List.headD (List.tail (Prod.fst r7)) (OV.flat FV.gone)))))))], [])))
  (ifB (a0 == (7 : Int))
  (callB (rec 63 [OV.flat (FV.val (PV.bool (decide (PV.toI (FV.pv (OV.fv (List.headD (Prod.fst r1) (OV.flat FV.gone)))) > (0 : Int)))))]) fun r8 => needB (okOs Go.Proofs.Tryd.prog [23, 42] [] (Prod.fst r8)) <|
  some ([OV.flat (FV.val (PV.agg [PV.int .i64 (PV.toI (List.headD (PV.cells (FV.pv (OV.fv (List.headD (Prod.fst r8) (OV.flat FV.gone))))) PV.undef)), PV.int .i64 (PV.toI (List.headD (List.tail (PV.cells (FV.pv (OV.fv (List.headD (Prod.fst r8) (OV.flat FV.gone)))))) PV.undef)), PV.str (PV.toS (List.headD (List.tail (List.tail (PV.cells (FV.pv (OV.fv (List.headD (Prod.fst r8) (OV.flat FV.gone))))))) PV.undef))])), OV.flat (FV.val (PV.int .i64 (PV.toI (FV.pv (OV.fv (List.headD (List.tail (Prod.fst r8)) (OV.flat FV.gone)))))))], []))
  (callB (rec 63 [OV.flat (FV.val (PV.bool (PV.toI (FV.pv (OV.fv (List.headD (Prod.fst r1) (OV.flat FV.gone)))) == (0 : Int))))]) fun r9 => needB (okOs Go.Proofs.Tryd.prog [23, 42] [] (Prod.fst r9)) <|
  some ([OV.flat (FV.val (PV.agg [PV.int .i64 (PV.toI (List.headD (PV.cells (FV.pv (OV.fv (List.headD (Prod.fst r9) (OV.flat FV.gone))))) PV.undef)), PV.int .i64 (PV.toI (List.headD (List.tail (PV.cells (FV.pv (OV.fv (List.headD (Prod.fst r9) (OV.flat FV.gone)))))) PV.undef)), PV.str (PV.toS (List.headD (List.tail (List.tail (PV.cells (FV.pv (OV.fv (List.headD (Prod.fst r9) (OV.flat FV.gone))))))) PV.undef))])), OV.flat (FV.val (PV.int .i64 (PV.toI (FV.pv (OV.fv (List.headD (List.tail (Prod.fst r9)) (OV.flat FV.gone)))))))], [])))))))

theorem f60_eval_test_eq (rec : Rec) (n : Nat) (a0 : Int) (a1 : Int) (a2 : Int) (a3 : List UInt8) (a4 : Int) (a5 : Int) (a6 : List UInt8) : callBody C rec n 60 [OV.flat (FV.val (PV.int .i64 a0)), OV.flat (FV.val (PV.agg [PV.int .i64 a1, PV.int .i64 a2, PV.str a3])), OV.flat (FV.val (PV.agg [PV.int .i64 a4, PV.int .i64 a5, PV.str a6]))] = f60_eval_test rec n a0 a1 a2 a3 a4 a5 a6 := by kernel_rfl

noncomputable def f61_eval_num (rec : Rec) (n : Nat) (a0 : Int) (a1 : Int) : Option (List OV × List OV) :=
  ifB (a1 != (0 : Int))
  (some ([OV.flat (FV.val (PV.agg [PV.int .i64 (0 : Int), PV.int .i64 (0 : Int), PV.str ([] : List UInt8)])), OV.flat (FV.val (PV.int .i64 a1))], []))
  (some ([OV.flat (FV.val (PV.agg [PV.int .i64 (1 : Int), PV.int .i64 a0, PV.str ([] : List UInt8)])), OV.flat (FV.val (PV.int .i64 (0 : Int)))], []))

theorem f61_eval_num_eq (rec : Rec) (n : Nat) (a0 : Int) (a1 : Int) : callBody C rec n 61 [OV.flat (FV.val (PV.int .i64 a0)), OV.flat (FV.val (PV.int .i64 a1))] = f61_eval_num rec n a0 a1 := by kernel_rfl

noncomputable def f62_eval_reckon (rec : Rec) (n : Nat) (a0 : Int) (a1 : Int) (a2 : Int) : Option (List OV × List OV) :=
  ifB (a0 == (9 : Int))
  (ifB ((decide (IntKind.wrap .i64 (a1 + a2) > a1)) == (decide (a2 > (0 : Int))))
  (some ([OV.flat (FV.val (PV.int .i64 (IntKind.wrap .i64 (a1 + a2)))), OV.flat (FV.val (PV.int .i64 (0 : Int)))], []))
  (some ([OV.flat (FV.val (PV.int .i64 (0 : Int))), OV.flat (FV.val (PV.int .i64 (7 : Int)))], [])))
  (ifB (a0 == (10 : Int))
  (ifB ((decide (IntKind.wrap .i64 (a1 - a2) < a1)) == (decide (a2 > (0 : Int))))
  (some ([OV.flat (FV.val (PV.int .i64 (IntKind.wrap .i64 (a1 - a2)))), OV.flat (FV.val (PV.int .i64 (0 : Int)))], []))
  (some ([OV.flat (FV.val (PV.int .i64 (0 : Int))), OV.flat (FV.val (PV.int .i64 (7 : Int)))], [])))
  (ifB (a0 == (11 : Int))
  (callB (rec 69 [OV.flat (FV.val (PV.int .i64 a1)), OV.flat (FV.val (PV.int .i64 a2))]) fun r1 => needB (okOs Go.Proofs.Tryd.prog [3, 42] [] (Prod.fst r1)) <|
  some ([OV.flat (FV.val (PV.int .i64 (PV.toI (FV.pv (OV.fv (List.headD (Prod.fst r1) (OV.flat FV.gone))))))), OV.flat (FV.val (PV.int .i64 (PV.toI (FV.pv (OV.fv (List.headD (List.tail (Prod.fst r1)) (OV.flat FV.gone)))))))], []))
  (ifB (a2 == (0 : Int))
  (some ([OV.flat (FV.val (PV.int .i64 (0 : Int))), OV.flat (FV.val (PV.int .i64 (8 : Int)))], []))
  (ifB (a0 == (13 : Int))
  (needB (a2 != 0) <|
  some ([OV.flat (FV.val (PV.int .i64 (Int.tmod a1 a2))), OV.flat (FV.val (PV.int .i64 (0 : Int)))], []))
  (ifB (a1 == (-9223372036854775808 : Int))
  (ifB (a2 == (-1 : Int))
  (some ([OV.flat (FV.val (PV.int .i64 (0 : Int))), OV.flat (FV.val (PV.int .i64 (7 : Int)))], []))
  (needB (a2 != 0) <|
  some ([OV.flat (FV.val (PV.int .i64 (IntKind.wrap .i64 (Int.tdiv a1 a2)))), OV.flat (FV.val (PV.int .i64 (0 : Int)))], [])))
  (needB (a2 != 0) <|
  some ([OV.flat (FV.val (PV.int .i64 (IntKind.wrap .i64 (Int.tdiv a1 a2)))), OV.flat (FV.val (PV.int .i64 (0 : Int)))], [])))))))

theorem f62_eval_reckon_eq (rec : Rec) (n : Nat) (a0 : Int) (a1 : Int) (a2 : Int) : callBody C rec n 62 [OV.flat (FV.val (PV.int .i64 a0)), OV.flat (FV.val (PV.int .i64 a1)), OV.flat (FV.val (PV.int .i64 a2))] = f62_eval_reckon rec n a0 a1 a2 := by kernel_rfl

noncomputable def f63_eval_yes (rec : Rec) (n : Nat) (a0 : Bool) : Option (List OV × List OV) :=
  ifB (a0)
  (callB (rec 61 [OV.flat (FV.val (PV.int .i64 (1 : Int))), OV.flat (FV.val (PV.int .i64 (0 : Int)))]) fun r1 => needB (okOs Go.Proofs.Tryd.prog [23, 42] [] (Prod.fst r1)) <|
  some ([OV.flat (FV.val (PV.agg [PV.int .i64 (PV.toI (List.headD (PV.cells (FV.pv (OV.fv (List.headD (Prod.fst r1) (OV.flat FV.gone))))) PV.undef)), PV.int .i64 (PV.toI (List.headD (List.tail (PV.cells (FV.pv (OV.fv (List.headD (Prod.fst r1) (OV.flat FV.gone)))))) PV.undef)), PV.str (PV.toS (List.headD (List.tail (List.tail (PV.cells (FV.pv (OV.fv (List.headD (Prod.fst r1) (OV.flat FV.gone))))))) PV.undef))])), OV.flat (FV.val (PV.int .i64 (PV.toI (FV.pv (OV.fv (List.headD (List.tail (Prod.fst r1)) (OV.flat FV.gone)))))))], []))
  (callB (rec 61 [OV.flat (FV.val (PV.int .i64 (0 : Int))), OV.flat (FV.val (PV.int .i64 (0 : Int)))]) fun r2 => needB (okOs Go.Proofs.Tryd.prog [23, 42] [] (Prod.fst r2)) <|
  some ([OV.flat (FV.val (PV.agg [PV.int .i64 (PV.toI (List.headD (PV.cells (FV.pv (OV.fv (List.headD (Prod.fst r2) (OV.flat FV.gone))))) PV.undef)), PV.int .i64 (PV.toI (List.headD (List.tail (PV.cells (FV.pv (OV.fv (List.headD (Prod.fst r2) (OV.flat FV.gone)))))) PV.undef)), PV.str (PV.toS (List.headD (List.tail (List.tail (PV.cells (FV.pv (OV.fv (List.headD (Prod.fst r2) (OV.flat FV.gone))))))) PV.undef))])), OV.flat (FV.val (PV.int .i64 (PV.toI (FV.pv (OV.fv (List.headD (List.tail (Prod.fst r2)) (OV.flat FV.gone)))))))], []))

theorem f63_eval_yes_eq (rec : Rec) (n : Nat) (a0 : Bool) : callBody C rec n 63 [OV.flat (FV.val (PV.bool a0))] = f63_eval_yes rec n a0 := by kernel_rfl

noncomputable def f64_vestryref01_Num.l0.step (rec : Rec) (n : Nat) (self_l0 : Int → List PV → Int → Option (List OV × List OV)) (x0 : Int) (x1 : List PV) (x2 : Int) : Option (List OV × List OV) :=
  ifB (decide (x2 ≥ (0 : Int)))
  (needB (decide ((0 : Int) ≤ x2)) <|
  needB (decide (x2 < ((List.length x1 : Nat) : Int))) <|
  needB (Nat.blt (Int.toNat x2) (List.length x1)) <|
  self_l0 (Int.fdiv x0 ((2 : Int) ^ (min 8 (IntKind.bits .i64)))) (List.set x1 (Int.toNat x2) (PV.int .u8 (IntKind.wrap .u8 x0))) (IntKind.wrap .i64 (x2 - (1 : Int))))
  (some ([OV.flat (FV.own none x1 [])], []))

noncomputable def f64_vestryref01_Num.l0 (rec : Rec) (n : Nat) : Nat → Int → List PV → Int → Option (List OV × List OV)
  | 0, _, _, _ => none
  | m + 1, x0, x1, x2 => f64_vestryref01_Num.l0.step rec n (f64_vestryref01_Num.l0 rec n m) x0 x1 x2

theorem f64_vestryref01_Num.l0_eq (rec : Rec) (n : Nat) : ∀ (m : Nat) (x0 : Int) (x1 : List PV) (x2 : Int), loopAt C rec n 64 [1, 1, 0, 1, 0] [] m [(0, SV.home (OV.flat (FV.val (PV.int .i64 x0)))), (3, SV.home (OV.flat (FV.own none x1 []))), (4, SV.home (OV.flat (FV.val (PV.int .i64 x2))))] = f64_vestryref01_Num.l0 rec n m x0 x1 x2
  | 0, x0, x1, x2 => by kernel_rfl
  | m + 1, x0, x1, x2 => by
    have ih : (fun x0 x1 x2 => loopAt C rec n 64 [1, 1, 0, 1, 0] [] m [(0, SV.home (OV.flat (FV.val (PV.int .i64 x0)))), (3, SV.home (OV.flat (FV.own none x1 []))), (4, SV.home (OV.flat (FV.val (PV.int .i64 x2))))]) = f64_vestryref01_Num.l0 rec n m := funext fun x0 => funext fun x1 => funext fun x2 => f64_vestryref01_Num.l0_eq rec n m x0 x1 x2
    exact (show loopAt C rec n 64 [1, 1, 0, 1, 0] [] (m + 1) [(0, SV.home (OV.flat (FV.val (PV.int .i64 x0)))), (3, SV.home (OV.flat (FV.own none x1 []))), (4, SV.home (OV.flat (FV.val (PV.int .i64 x2))))] = f64_vestryref01_Num.l0.step rec n (fun x0 x1 x2 => loopAt C rec n 64 [1, 1, 0, 1, 0] [] m [(0, SV.home (OV.flat (FV.val (PV.int .i64 x0)))), (3, SV.home (OV.flat (FV.own none x1 []))), (4, SV.home (OV.flat (FV.val (PV.int .i64 x2))))]) x0 x1 x2 from by kernel_rfl).trans (by rw [ih]; rfl)

noncomputable def f64_vestryref01_Num.pre (rec : Rec) (n : Nat) (l0 : Int → List PV → Int → Option (List OV × List OV)) (a0 : Int) : Option (List OV × List OV) :=
  needB (Nat.ble (1 * 8) 140737488355328) <|
  l0 a0 (List.replicate 8 (PV.int .u8 (0 : Int))) (7 : Int)

noncomputable def f64_vestryref01_Num (rec : Rec) (n : Nat) (a0 : Int) : Option (List OV × List OV) := f64_vestryref01_Num.pre rec n (f64_vestryref01_Num.l0 rec n n) a0

theorem f64_vestryref01_Num_eq (rec : Rec) (n : Nat) (a0 : Int) : callBody C rec n 64 [OV.flat (FV.val (PV.int .i64 a0))] = f64_vestryref01_Num rec n a0 := by
  have i0 : (fun x0 x1 x2 => loopAt C rec n 64 [1, 1, 0, 1, 0] [] n [(0, SV.home (OV.flat (FV.val (PV.int .i64 x0)))), (3, SV.home (OV.flat (FV.own none x1 []))), (4, SV.home (OV.flat (FV.val (PV.int .i64 x2))))]) = f64_vestryref01_Num.l0 rec n n := funext fun x0 => funext fun x1 => funext fun x2 => f64_vestryref01_Num.l0_eq rec n n x0 x1 x2
  exact (show callBody C rec n 64 [OV.flat (FV.val (PV.int .i64 a0))] = f64_vestryref01_Num.pre rec n (fun x0 x1 x2 => loopAt C rec n 64 [1, 1, 0, 1, 0] [] n [(0, SV.home (OV.flat (FV.val (PV.int .i64 x0)))), (3, SV.home (OV.flat (FV.own none x1 []))), (4, SV.home (OV.flat (FV.val (PV.int .i64 x2))))]) a0 from by kernel_rfl).trans (by rw [i0]; rfl)

noncomputable def f66_bytes_Index (rec : Rec) (n : Nat) (a0 : List PV) (a1 : Int) : Option (List OV × List OV) :=
  needB (decide ((0 : Int) < ((List.length [PV.int .u8 a1] : Nat) : Int))) <|
  needB (hasT Go.Proofs.Tryd.prog 5 (nthP [PV.int .u8 a1] 0)) <|
  callB (rec 72 [OV.flat (FV.val (PV.sl none a0)), OV.flat (FV.val (PV.int .u8 (PV.toI (nthP [PV.int .u8 a1] 0))))]) fun r1 => needB (okOs Go.Proofs.Tryd.prog [3] [] (Prod.fst r1)) <|
  some ([OV.flat (FV.val (PV.int .i64 (PV.toI (FV.pv (OV.fv (List.headD (Prod.fst r1) (OV.flat FV.gone)))))))], [])

theorem f66_bytes_Index_eq (rec : Rec) (n : Nat) (a0 : List PV) (a1 : Int) : callBody C rec n 66 [OV.flat (FV.val (PV.sl none a0)), OV.flat (FV.val (PV.sl none [PV.int .u8 a1]))] = f66_bytes_Index rec n a0 a1 := by kernel_rfl

noncomputable def f68_eval_fails (rec : Rec) (n : Nat) (a0 : Int) (a1 : Int) (a2 : List UInt8) : Option (List OV × List OV) :=
  ifB (a0 == (1 : Int))
  (some ([OV.flat (FV.val (PV.bool (a1 == (0 : Int))))], []))
  (some ([OV.flat (FV.val (PV.bool false))], []))

theorem f68_eval_fails_eq (rec : Rec) (n : Nat) (a0 : Int) (a1 : Int) (a2 : List UInt8) : callBody C rec n 68 [OV.flat (FV.val (PV.agg [PV.int .i64 a0, PV.int .i64 a1, PV.str a2]))] = f68_eval_fails rec n a0 a1 a2 := by kernel_rfl

noncomputable def f69_eval_times (rec : Rec) (n : Nat) (a0 : Int) (a1 : Int) : Option (List OV × List OV) :=
  callB (rec 79 [OV.flat (FV.val (PV.int .i64 a0))]) fun r1 => needB (okOs Go.Proofs.Tryd.prog [87] [] (Prod.fst r1)) <|
  callB (rec 79 [OV.flat (FV.val (PV.int .i64 a1))]) fun r2 => needB (okOs Go.Proofs.Tryd.prog [87] [] (Prod.fst r2)) <|
  callB (rec 78 [OV.flat (FV.val (PV.int .u64 (PV.toI (FV.pv (OV.fv (List.headD (Prod.fst r1) (OV.flat FV.gone))))))), OV.flat (FV.val (PV.int .u64 (PV.toI (FV.pv (OV.fv (List.headD (Prod.fst r2) (OV.flat FV.gone)))))))]) fun r3 => needB (okOs Go.Proofs.Tryd.prog [87, 87] [] (Prod.fst r3)) <|
  ifB (decide (PV.toI (FV.pv (OV.fv (List.headD (Prod.fst r3) (OV.flat FV.gone)))) > (0 : Int)))
  (some ([OV.flat (FV.val (PV.int .i64 (0 : Int))), OV.flat (FV.val (PV.int .i64 (7 : Int)))], []))
  (ifB (decide (PV.toI (FV.pv (OV.fv (List.headD (List.tail (Prod.fst r3)) (OV.flat FV.gone)))) > (9223372036854775808 : Int)))
  (some ([OV.flat (FV.val (PV.int .i64 (0 : Int))), OV.flat (FV.val (PV.int .i64 (7 : Int)))], []))
  (ifB (PV.toI (FV.pv (OV.fv (List.headD (List.tail (Prod.fst r3)) (OV.flat FV.gone)))) == (9223372036854775808 : Int))
  (ifB (!(!((decide (a0 < (0 : Int))) == (decide (a1 < (0 : Int))))))
  (some ([OV.flat (FV.val (PV.int .i64 (0 : Int))), OV.flat (FV.val (PV.int .i64 (7 : Int)))], []))
  (some ([OV.flat (FV.val (PV.int .i64 (IntKind.wrap .i64 (a0 * a1)))), OV.flat (FV.val (PV.int .i64 (0 : Int)))], [])))
  (some ([OV.flat (FV.val (PV.int .i64 (IntKind.wrap .i64 (a0 * a1)))), OV.flat (FV.val (PV.int .i64 (0 : Int)))], []))))

theorem f69_eval_times_eq (rec : Rec) (n : Nat) (a0 : Int) (a1 : Int) : callBody C rec n 69 [OV.flat (FV.val (PV.int .i64 a0)), OV.flat (FV.val (PV.int .i64 a1))] = f69_eval_times rec n a0 a1 := by kernel_rfl

noncomputable def f78_bits_Mul64 (rec : Rec) (n : Nat) (a0 : Int) (a1 : Int) : Option (List OV × List OV) :=
  some ([OV.flat (FV.val (PV.int .u64 (IntKind.wrap .u64 (IntKind.wrap .u64 (IntKind.wrap .u64 (Int.fdiv a0 ((2 : Int) ^ (min 32 (IntKind.bits .u64))) * Int.fdiv a1 ((2 : Int) ^ (min 32 (IntKind.bits .u64)))) + Int.fdiv (IntKind.wrap .u64 (IntKind.wrap .u64 (Int.fdiv a0 ((2 : Int) ^ (min 32 (IntKind.bits .u64))) * IntKind.wrap .u64 (((BitVec.toNat ((BitVec.ofInt (IntKind.bits .u64) a1) &&& (BitVec.ofInt (IntKind.bits .u64) (4294967295 : Int))) : Nat) : Int))) + Int.fdiv (IntKind.wrap .u64 (IntKind.wrap .u64 (((BitVec.toNat ((BitVec.ofInt (IntKind.bits .u64) a0) &&& (BitVec.ofInt (IntKind.bits .u64) (4294967295 : Int))) : Nat) : Int)) * IntKind.wrap .u64 (((BitVec.toNat ((BitVec.ofInt (IntKind.bits .u64) a1) &&& (BitVec.ofInt (IntKind.bits .u64) (4294967295 : Int))) : Nat) : Int)))) ((2 : Int) ^ (min 32 (IntKind.bits .u64))))) ((2 : Int) ^ (min 32 (IntKind.bits .u64)))) + Int.fdiv (IntKind.wrap .u64 (IntKind.wrap .u64 (((BitVec.toNat ((BitVec.ofInt (IntKind.bits .u64) (IntKind.wrap .u64 (IntKind.wrap .u64 (Int.fdiv a0 ((2 : Int) ^ (min 32 (IntKind.bits .u64))) * IntKind.wrap .u64 (((BitVec.toNat ((BitVec.ofInt (IntKind.bits .u64) a1) &&& (BitVec.ofInt (IntKind.bits .u64) (4294967295 : Int))) : Nat) : Int))) + Int.fdiv (IntKind.wrap .u64 (IntKind.wrap .u64 (((BitVec.toNat ((BitVec.ofInt (IntKind.bits .u64) a0) &&& (BitVec.ofInt (IntKind.bits .u64) (4294967295 : Int))) : Nat) : Int)) * IntKind.wrap .u64 (((BitVec.toNat ((BitVec.ofInt (IntKind.bits .u64) a1) &&& (BitVec.ofInt (IntKind.bits .u64) (4294967295 : Int))) : Nat) : Int)))) ((2 : Int) ^ (min 32 (IntKind.bits .u64)))))) &&& (BitVec.ofInt (IntKind.bits .u64) (4294967295 : Int))) : Nat) : Int)) + IntKind.wrap .u64 (IntKind.wrap .u64 (((BitVec.toNat ((BitVec.ofInt (IntKind.bits .u64) a0) &&& (BitVec.ofInt (IntKind.bits .u64) (4294967295 : Int))) : Nat) : Int)) * Int.fdiv a1 ((2 : Int) ^ (min 32 (IntKind.bits .u64)))))) ((2 : Int) ^ (min 32 (IntKind.bits .u64))))))), OV.flat (FV.val (PV.int .u64 (IntKind.wrap .u64 (a0 * a1))))], [])

theorem f78_bits_Mul64_eq (rec : Rec) (n : Nat) (a0 : Int) (a1 : Int) : callBody C rec n 78 [OV.flat (FV.val (PV.int .u64 a0)), OV.flat (FV.val (PV.int .u64 a1))] = f78_bits_Mul64 rec n a0 a1 := by kernel_rfl

noncomputable def f79_eval_size (rec : Rec) (n : Nat) (a0 : Int) : Option (List OV × List OV) :=
  ifB (decide (a0 < (0 : Int)))
  (some ([OV.flat (FV.val (PV.int .u64 (IntKind.wrap .u64 ((0 : Int) - IntKind.wrap .u64 a0))))], []))
  (some ([OV.flat (FV.val (PV.int .u64 (IntKind.wrap .u64 a0)))], []))

theorem f79_eval_size_eq (rec : Rec) (n : Nat) (a0 : Int) : callBody C rec n 79 [OV.flat (FV.val (PV.int .i64 a0))] = f79_eval_size rec n a0 := by kernel_rfl

end Go.Proofs.YtoaclbilkoeghaaDoor

