/- What the functions answer, and the laws. -/
import Derived.Test.YtoaclbilkoeghaaDoorSh

set_option linter.unusedVariables false

set_option linter.unusedSimpArgs false

set_option linter.unusedSectionVars false

open Go Go.Ev

set_option linter.unusedVariables false

set_option maxRecDepth 100000

namespace Go.Proofs.YtoaclbilkoeghaaDoor

noncomputable def f3_vestrylaw15_PlanSpans.l0.step (rec : Rec) (n : Nat) (self_l0 : Int → Int → Int → List UInt8 → List UInt8 → Int → Int → List UInt8 → List PV → Bool → Int → Option (List OV × List OV)) (x0 : Int) (x1 : Int) (x2 : Int) (x3 : List UInt8) (x4 : List UInt8) (x5 : Int) (x6 : Int) (x7 : List UInt8) (x8 : List PV) (x9 : Bool) (x10 : Int) : Option (List OV × List OV) :=
  ifB (decide (x10 < (2 : Int)))
  (callB (rec 10 [OV.flat (FV.val (PV.agg [PV.int .i64 x1, PV.int .i64 x2, PV.str x3, PV.str x4, PV.int .i64 x5, PV.int .i64 x6, PV.str x7, PV.sl (some 8) x8])), OV.flat (FV.val (PV.int .i64 x0))]) fun r3 => needB (okOs Go.Proofs.Tryd.prog [31] [.a [true, true, false]] (Prod.fst r3)) <|
  callB (rec 12 [OV.flat (FV.val (PV.agg [PV.int .i64 x1, PV.int .i64 x2, PV.str x3, PV.str x4, PV.int .i64 x5, PV.int .i64 x6, PV.str x7, PV.sl (some 8) x8])), OV.flat (FV.val (PV.int .i64 x0))]) fun r4 => needB (okOs Go.Proofs.Tryd.prog [31] [] (Prod.fst r4)) <|
  callB (rec 11 [OV.flat (FV.val (PV.agg [PV.sl none (FV.xs (List.headD (OV.cells (List.headD (Prod.fst r3) (OV.flat FV.gone))) FV.gone)), PV.sl none (FV.xs (List.headD (List.tail (OV.cells (List.headD (Prod.fst r3) (OV.flat FV.gone)))) FV.gone)), PV.bool (PV.toB (FV.pv (List.headD (List.tail (List.tail (OV.cells (List.headD (Prod.fst r3) (OV.flat FV.gone))))) FV.gone)))])), OV.flat (FV.val (PV.agg [PV.sl none (PV.toL (List.headD (PV.cells (FV.pv (OV.fv (List.headD (Prod.fst r4) (OV.flat FV.gone))))) PV.undef)), PV.sl none (PV.toL (List.headD (List.tail (PV.cells (FV.pv (OV.fv (List.headD (Prod.fst r4) (OV.flat FV.gone)))))) PV.undef)), PV.bool (PV.toB (List.headD (List.tail (List.tail (PV.cells (FV.pv (OV.fv (List.headD (Prod.fst r4) (OV.flat FV.gone))))))) PV.undef))]))]) fun r5 => needB (okOs Go.Proofs.Tryd.prog [4] [] (Prod.fst r5)) <|
  callB (rec 13 [OV.cont .nest [FV.own none (FV.xs (List.headD (OV.cells (List.headD (Prod.fst r3) (OV.flat FV.gone))) FV.gone)) [], FV.own none (FV.xs (List.headD (List.tail (OV.cells (List.headD (Prod.fst r3) (OV.flat FV.gone)))) FV.gone)) []]]) fun r6 => needB (okOs Go.Proofs.Tryd.prog [4] [] (Prod.fst r6)) <|
  ifB (!(PV.toB (FV.pv (OV.fv (List.headD (Prod.fst r5) (OV.flat FV.gone))))))
  (some ([OV.flat (FV.val (PV.bool false))], []))
  (ifB (!(PV.toB (FV.pv (OV.fv (List.headD (Prod.fst r6) (OV.flat FV.gone))))))
  (some ([OV.flat (FV.val (PV.bool false))], []))
  (self_l0 x0 x1 x2 x3 x4 x5 x6 x7 x8 x9 (IntKind.wrap .i64 (x10 + (1 : Int))))))
  (some ([OV.flat (FV.val (PV.bool x9))], []))

noncomputable def f3_vestrylaw15_PlanSpans.l0 (rec : Rec) (n : Nat) : Nat → Int → Int → Int → List UInt8 → List UInt8 → Int → Int → List UInt8 → List PV → Bool → Int → Option (List OV × List OV)
  | 0, _, _, _, _, _, _, _, _, _, _, _ => none
  | m + 1, x0, x1, x2, x3, x4, x5, x6, x7, x8, x9, x10 => f3_vestrylaw15_PlanSpans.l0.step rec n (f3_vestrylaw15_PlanSpans.l0 rec n m) x0 x1 x2 x3 x4 x5 x6 x7 x8 x9 x10

theorem f3_vestrylaw15_PlanSpans.l0_eq (rec : Rec) (n : Nat) : ∀ (m : Nat) (x0 : Int) (x1 : Int) (x2 : Int) (x3 : List UInt8) (x4 : List UInt8) (x5 : Int) (x6 : Int) (x7 : List UInt8) (x8 : List PV) (x9 : Bool) (x10 : Int), loopAt C rec n 3 [1, 1, 1, 1, 0, 1, 0] [] m [(1, SV.home (OV.flat (FV.val (PV.int .i64 x0)))), (2, SV.home (OV.cont .box [FV.val (PV.int .i64 x1), FV.val (PV.int .i64 x2), FV.val (PV.str x3), FV.val (PV.str x4), FV.val (PV.int .i64 x5), FV.val (PV.int .i64 x6), FV.val (PV.str x7), FV.val (PV.sl (some 8) x8)])), (5, SV.home (OV.flat (FV.val (PV.bool x9)))), (7, SV.home (OV.flat (FV.val (PV.int .i64 x10))))] = f3_vestrylaw15_PlanSpans.l0 rec n m x0 x1 x2 x3 x4 x5 x6 x7 x8 x9 x10
  | 0, x0, x1, x2, x3, x4, x5, x6, x7, x8, x9, x10 => by kernel_rfl
  | m + 1, x0, x1, x2, x3, x4, x5, x6, x7, x8, x9, x10 => by
    have ih : (fun x0 x1 x2 x3 x4 x5 x6 x7 x8 x9 x10 => loopAt C rec n 3 [1, 1, 1, 1, 0, 1, 0] [] m [(1, SV.home (OV.flat (FV.val (PV.int .i64 x0)))), (2, SV.home (OV.cont .box [FV.val (PV.int .i64 x1), FV.val (PV.int .i64 x2), FV.val (PV.str x3), FV.val (PV.str x4), FV.val (PV.int .i64 x5), FV.val (PV.int .i64 x6), FV.val (PV.str x7), FV.val (PV.sl (some 8) x8)])), (5, SV.home (OV.flat (FV.val (PV.bool x9)))), (7, SV.home (OV.flat (FV.val (PV.int .i64 x10))))]) = f3_vestrylaw15_PlanSpans.l0 rec n m := funext fun x0 => funext fun x1 => funext fun x2 => funext fun x3 => funext fun x4 => funext fun x5 => funext fun x6 => funext fun x7 => funext fun x8 => funext fun x9 => funext fun x10 => f3_vestrylaw15_PlanSpans.l0_eq rec n m x0 x1 x2 x3 x4 x5 x6 x7 x8 x9 x10
    exact (show loopAt C rec n 3 [1, 1, 1, 1, 0, 1, 0] [] (m + 1) [(1, SV.home (OV.flat (FV.val (PV.int .i64 x0)))), (2, SV.home (OV.cont .box [FV.val (PV.int .i64 x1), FV.val (PV.int .i64 x2), FV.val (PV.str x3), FV.val (PV.str x4), FV.val (PV.int .i64 x5), FV.val (PV.int .i64 x6), FV.val (PV.str x7), FV.val (PV.sl (some 8) x8)])), (5, SV.home (OV.flat (FV.val (PV.bool x9)))), (7, SV.home (OV.flat (FV.val (PV.int .i64 x10))))] = f3_vestrylaw15_PlanSpans.l0.step rec n (fun x0 x1 x2 x3 x4 x5 x6 x7 x8 x9 x10 => loopAt C rec n 3 [1, 1, 1, 1, 0, 1, 0] [] m [(1, SV.home (OV.flat (FV.val (PV.int .i64 x0)))), (2, SV.home (OV.cont .box [FV.val (PV.int .i64 x1), FV.val (PV.int .i64 x2), FV.val (PV.str x3), FV.val (PV.str x4), FV.val (PV.int .i64 x5), FV.val (PV.int .i64 x6), FV.val (PV.str x7), FV.val (PV.sl (some 8) x8)])), (5, SV.home (OV.flat (FV.val (PV.bool x9)))), (7, SV.home (OV.flat (FV.val (PV.int .i64 x10))))]) x0 x1 x2 x3 x4 x5 x6 x7 x8 x9 x10 from by kernel_rfl).trans (by rw [ih]; rfl)

noncomputable def f3_vestrylaw15_PlanSpans.pre (rec : Rec) (n : Nat) (l0 : Int → Int → Int → List UInt8 → List UInt8 → Int → Int → List UInt8 → List PV → Bool → Int → Option (List OV × List OV)) (a0 : Int) (a1 : Int) (a2 : List UInt8) (a3 : List UInt8) (a4 : Int) (a5 : Int) (a6 : List UInt8) (a7 : List PV) (a8 : Int) : Option (List OV × List OV) :=
  callB (rec 8 []) fun r1 => needB (okOs Go.Proofs.Tryd.prog [4] [] (Prod.fst r1)) <|
  callB (rec 9 [OV.flat (FV.val (PV.agg [PV.int .i64 a0, PV.int .i64 a1, PV.str a2, PV.str a3, PV.int .i64 a4, PV.int .i64 a5, PV.str a6, PV.sl (some 8) a7])), OV.flat (FV.val (PV.int .i64 (12 : Int)))]) fun r2 => needB (okOs Go.Proofs.Tryd.prog [4] [] (Prod.fst r2)) <|
  ifB (!(PV.toB (FV.pv (OV.fv (List.headD (Prod.fst r2) (OV.flat FV.gone))))))
  (some ([OV.flat (FV.val (PV.bool (PV.toB (FV.pv (OV.fv (List.headD (Prod.fst r1) (OV.flat FV.gone)))))))], []))
  (l0 a8 a0 a1 a2 a3 a4 a5 a6 a7 (PV.toB (FV.pv (OV.fv (List.headD (Prod.fst r1) (OV.flat FV.gone))))) (0 : Int))

noncomputable def f3_vestrylaw15_PlanSpans (rec : Rec) (n : Nat) (a0 : Int) (a1 : Int) (a2 : List UInt8) (a3 : List UInt8) (a4 : Int) (a5 : Int) (a6 : List UInt8) (a7 : List PV) (a8 : Int) : Option (List OV × List OV) := f3_vestrylaw15_PlanSpans.pre rec n (f3_vestrylaw15_PlanSpans.l0 rec n n) a0 a1 a2 a3 a4 a5 a6 a7 a8

theorem f3_vestrylaw15_PlanSpans_eq (rec : Rec) (n : Nat) (a0 : Int) (a1 : Int) (a2 : List UInt8) (a3 : List UInt8) (a4 : Int) (a5 : Int) (a6 : List UInt8) (a7 : List PV) (a8 : Int) : callBody C rec n 3 [OV.flat (FV.val (PV.agg [PV.int .i64 a0, PV.int .i64 a1, PV.str a2, PV.str a3, PV.int .i64 a4, PV.int .i64 a5, PV.str a6, PV.sl (some 8) a7])), OV.flat (FV.val (PV.int .i64 a8))] = f3_vestrylaw15_PlanSpans rec n a0 a1 a2 a3 a4 a5 a6 a7 a8 := by
  have i0 : (fun x0 x1 x2 x3 x4 x5 x6 x7 x8 x9 x10 => loopAt C rec n 3 [1, 1, 1, 1, 0, 1, 0] [] n [(1, SV.home (OV.flat (FV.val (PV.int .i64 x0)))), (2, SV.home (OV.cont .box [FV.val (PV.int .i64 x1), FV.val (PV.int .i64 x2), FV.val (PV.str x3), FV.val (PV.str x4), FV.val (PV.int .i64 x5), FV.val (PV.int .i64 x6), FV.val (PV.str x7), FV.val (PV.sl (some 8) x8)])), (5, SV.home (OV.flat (FV.val (PV.bool x9)))), (7, SV.home (OV.flat (FV.val (PV.int .i64 x10))))]) = f3_vestrylaw15_PlanSpans.l0 rec n n := funext fun x0 => funext fun x1 => funext fun x2 => funext fun x3 => funext fun x4 => funext fun x5 => funext fun x6 => funext fun x7 => funext fun x8 => funext fun x9 => funext fun x10 => f3_vestrylaw15_PlanSpans.l0_eq rec n n x0 x1 x2 x3 x4 x5 x6 x7 x8 x9 x10
  exact (show callBody C rec n 3 [OV.flat (FV.val (PV.agg [PV.int .i64 a0, PV.int .i64 a1, PV.str a2, PV.str a3, PV.int .i64 a4, PV.int .i64 a5, PV.str a6, PV.sl (some 8) a7])), OV.flat (FV.val (PV.int .i64 a8))] = f3_vestrylaw15_PlanSpans.pre rec n (fun x0 x1 x2 x3 x4 x5 x6 x7 x8 x9 x10 => loopAt C rec n 3 [1, 1, 1, 1, 0, 1, 0] [] n [(1, SV.home (OV.flat (FV.val (PV.int .i64 x0)))), (2, SV.home (OV.cont .box [FV.val (PV.int .i64 x1), FV.val (PV.int .i64 x2), FV.val (PV.str x3), FV.val (PV.str x4), FV.val (PV.int .i64 x5), FV.val (PV.int .i64 x6), FV.val (PV.str x7), FV.val (PV.sl (some 8) x8)])), (5, SV.home (OV.flat (FV.val (PV.bool x9)))), (7, SV.home (OV.flat (FV.val (PV.int .i64 x10))))]) a0 a1 a2 a3 a4 a5 a6 a7 a8 from by kernel_rfl).trans (by rw [i0]; rfl)

noncomputable def f4_vestrylaw15_PlanMeets (rec : Rec) (n : Nat) (a0 : List PV) (a1 : List PV) (a2 : Bool) (a3 : List PV) (a4 : List PV) (a5 : Bool) : Option (List OV × List OV) :=
  callB (rec 8 []) fun r1 => needB (okOs Go.Proofs.Tryd.prog [4] [] (Prod.fst r1)) <|
  callB (rec 14 [OV.flat (FV.val (PV.sl none a0))]) fun r2 => needB (okOs Go.Proofs.Tryd.prog [29] [.os] (Prod.fst r2)) <|
  callB (rec 14 [OV.flat (FV.val (PV.sl none a1))]) fun r3 => needB (okOs Go.Proofs.Tryd.prog [29] [.os] (Prod.fst r3)) <|
  callB (rec 14 [OV.flat (FV.val (PV.sl none a3))]) fun r4 => needB (okOs Go.Proofs.Tryd.prog [29] [.os] (Prod.fst r4)) <|
  callB (rec 14 [OV.flat (FV.val (PV.sl none a4))]) fun r5 => needB (okOs Go.Proofs.Tryd.prog [29] [.os] (Prod.fst r5)) <|
  callB (rec 15 [OV.flat (FV.val (PV.agg [PV.sl none (FV.xs (OV.fv (List.headD (Prod.fst r2) (OV.flat FV.gone)))), PV.sl none (FV.xs (OV.fv (List.headD (Prod.fst r3) (OV.flat FV.gone)))), PV.bool a2])), OV.flat (FV.val (PV.agg [PV.sl none (FV.xs (OV.fv (List.headD (Prod.fst r4) (OV.flat FV.gone)))), PV.sl none (FV.xs (OV.fv (List.headD (Prod.fst r5) (OV.flat FV.gone)))), PV.bool a5]))]) fun r6 => needB (okOs Go.Proofs.Tryd.prog [31] [.a [true, true, false]] (Prod.fst r6)) <|
  callB (rec 16 [OV.flat (FV.val (PV.agg [PV.sl none a0, PV.sl none a1, PV.bool a2])), OV.flat (FV.val (PV.agg [PV.sl none a3, PV.sl none a4, PV.bool a5]))]) fun r7 => needB (okOs Go.Proofs.Tryd.prog [31] [] (Prod.fst r7)) <|
  callB (rec 11 [OV.flat (FV.val (PV.agg [PV.sl none (FV.xs (List.headD (OV.cells (List.headD (Prod.fst r6) (OV.flat FV.gone))) FV.gone)), PV.sl none (FV.xs (List.headD (List.tail (OV.cells (List.headD (Prod.fst r6) (OV.flat FV.gone)))) FV.gone)), PV.bool (PV.toB (FV.pv (List.headD (List.tail (List.tail (OV.cells (List.headD (Prod.fst r6) (OV.flat FV.gone))))) FV.gone)))])), OV.flat (FV.val (PV.agg [PV.sl none (PV.toL (List.headD (PV.cells (FV.pv (OV.fv (List.headD (Prod.fst r7) (OV.flat FV.gone))))) PV.undef)), PV.sl none (PV.toL (List.headD (List.tail (PV.cells (FV.pv (OV.fv (List.headD (Prod.fst r7) (OV.flat FV.gone)))))) PV.undef)), PV.bool (PV.toB (List.headD (List.tail (List.tail (PV.cells (FV.pv (OV.fv (List.headD (Prod.fst r7) (OV.flat FV.gone))))))) PV.undef))]))]) fun r8 => needB (okOs Go.Proofs.Tryd.prog [4] [] (Prod.fst r8)) <|
  callB (rec 13 [OV.cont .nest [FV.own none (FV.xs (List.headD (OV.cells (List.headD (Prod.fst r6) (OV.flat FV.gone))) FV.gone)) [], FV.own none (FV.xs (List.headD (List.tail (OV.cells (List.headD (Prod.fst r6) (OV.flat FV.gone)))) FV.gone)) []]]) fun r9 => needB (okOs Go.Proofs.Tryd.prog [4] [] (Prod.fst r9)) <|
  callB (rec 17 [OV.flat (FV.own none (FV.xs (OV.fv (List.headD (Prod.fst r2) (OV.flat FV.gone)))) (FV.sp (OV.fv (List.headD (Prod.fst r2) (OV.flat FV.gone))))), OV.flat (FV.val (PV.sl none a0))]) fun r10 => needB (okOs Go.Proofs.Tryd.prog [4] [] (Prod.fst r10)) <|
  needB (okOuts Go.Proofs.Tryd.prog [29, 29] [.io .os, .ro] (Prod.snd r10)) <|
  ifB (PV.toB (FV.pv (OV.fv (List.headD (Prod.fst r10) (OV.flat FV.gone)))))
  (callB (rec 17 [OV.flat (FV.own none (FV.xs (OV.fv (List.headD (Prod.fst r3) (OV.flat FV.gone)))) (FV.sp (OV.fv (List.headD (Prod.fst r3) (OV.flat FV.gone))))), OV.flat (FV.val (PV.sl none a1))]) fun r11 => needB (okOs Go.Proofs.Tryd.prog [4] [] (Prod.fst r11)) <|
  needB (okOuts Go.Proofs.Tryd.prog [29, 29] [.io .os, .ro] (Prod.snd r11)) <|
  ifB (PV.toB (FV.pv (OV.fv (List.headD (Prod.fst r11) (OV.flat FV.gone)))))
  (callB (rec 17 [OV.flat (FV.own none (FV.xs (OV.fv (List.headD (Prod.fst r4) (OV.flat FV.gone)))) (FV.sp (OV.fv (List.headD (Prod.fst r4) (OV.flat FV.gone))))), OV.flat (FV.val (PV.sl none a3))]) fun r12 => needB (okOs Go.Proofs.Tryd.prog [4] [] (Prod.fst r12)) <|
  needB (okOuts Go.Proofs.Tryd.prog [29, 29] [.io .os, .ro] (Prod.snd r12)) <|
  ifB (PV.toB (FV.pv (OV.fv (List.headD (Prod.fst r12) (OV.flat FV.gone)))))
  (callB (rec 17 [OV.flat (FV.own none (FV.xs (OV.fv (List.headD (Prod.fst r5) (OV.flat FV.gone)))) (FV.sp (OV.fv (List.headD (Prod.fst r5) (OV.flat FV.gone))))), OV.flat (FV.val (PV.sl none a4))]) fun r13 => needB (okOs Go.Proofs.Tryd.prog [4] [] (Prod.fst r13)) <|
  needB (okOuts Go.Proofs.Tryd.prog [29, 29] [.io .os, .ro] (Prod.snd r13)) <|
  ifB (PV.toB (FV.pv (OV.fv (List.headD (Prod.fst r1) (OV.flat FV.gone)))))
  (ifB (PV.toB (FV.pv (OV.fv (List.headD (Prod.fst r8) (OV.flat FV.gone)))))
  (ifB (PV.toB (FV.pv (OV.fv (List.headD (Prod.fst r9) (OV.flat FV.gone)))))
  (some ([OV.flat (FV.val (PV.bool (PV.toB (FV.pv (OV.fv (List.headD (Prod.fst r13) (OV.flat FV.gone)))))))], []))
  (some ([OV.flat (FV.val (PV.bool false))], [])))
  (some ([OV.flat (FV.val (PV.bool false))], [])))
  (some ([OV.flat (FV.val (PV.bool false))], [])))
  (ifB (PV.toB (FV.pv (OV.fv (List.headD (Prod.fst r1) (OV.flat FV.gone)))))
  (ifB (PV.toB (FV.pv (OV.fv (List.headD (Prod.fst r8) (OV.flat FV.gone)))))
  (ifB (PV.toB (FV.pv (OV.fv (List.headD (Prod.fst r9) (OV.flat FV.gone)))))
  (some ([OV.flat (FV.val (PV.bool false))], []))
  (some ([OV.flat (FV.val (PV.bool false))], [])))
  (some ([OV.flat (FV.val (PV.bool false))], [])))
  (some ([OV.flat (FV.val (PV.bool false))], []))))
  (ifB (PV.toB (FV.pv (OV.fv (List.headD (Prod.fst r1) (OV.flat FV.gone)))))
  (ifB (PV.toB (FV.pv (OV.fv (List.headD (Prod.fst r8) (OV.flat FV.gone)))))
  (ifB (PV.toB (FV.pv (OV.fv (List.headD (Prod.fst r9) (OV.flat FV.gone)))))
  (some ([OV.flat (FV.val (PV.bool false))], []))
  (some ([OV.flat (FV.val (PV.bool false))], [])))
  (some ([OV.flat (FV.val (PV.bool false))], [])))
  (some ([OV.flat (FV.val (PV.bool false))], []))))
  (ifB (PV.toB (FV.pv (OV.fv (List.headD (Prod.fst r1) (OV.flat FV.gone)))))
  (ifB (PV.toB (FV.pv (OV.fv (List.headD (Prod.fst r8) (OV.flat FV.gone)))))
  (ifB (PV.toB (FV.pv (OV.fv (List.headD (Prod.fst r9) (OV.flat FV.gone)))))
  (some ([OV.flat (FV.val (PV.bool false))], []))
  (some ([OV.flat (FV.val (PV.bool false))], [])))
  (some ([OV.flat (FV.val (PV.bool false))], [])))
  (some ([OV.flat (FV.val (PV.bool false))], [])))

theorem f4_vestrylaw15_PlanMeets_eq (rec : Rec) (n : Nat) (a0 : List PV) (a1 : List PV) (a2 : Bool) (a3 : List PV) (a4 : List PV) (a5 : Bool) : callBody C rec n 4 [OV.flat (FV.val (PV.agg [PV.sl none a0, PV.sl none a1, PV.bool a2])), OV.flat (FV.val (PV.agg [PV.sl none a3, PV.sl none a4, PV.bool a5]))] = f4_vestrylaw15_PlanMeets rec n a0 a1 a2 a3 a4 a5 := by kernel_rfl

end Go.Proofs.YtoaclbilkoeghaaDoor

