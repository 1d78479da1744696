/- What the functions answer, and the laws. -/
import Derived.Test.YtnieankaikhmnaaCtx

set_option linter.unusedVariables false

set_option linter.unusedSimpArgs false

set_option linter.unusedSectionVars false

open Go Go.Ev
set_option linter.unusedVariables false
set_option maxRecDepth 100000
namespace Go.Proofs.Ytnieankaikhmnaa
noncomputable def f8_vestrylaw14_small.l0.step (rec : Rec) (n : Nat) (self_l0 : PV → Int → Option (List OV × List OV)) (x0 : PV) (x1 : Int) : Option (List OV × List OV) :=
 ifB (decide (x1 < (5 : Int)))
 (needB (Nat.blt 0 (List.length [PV.int .u8 (118 : Int)])) <|
 callB (rec 15 [OV.cont .box [FV.val (PV.ptr (some 3) x0)],OV.flat (FV.val (PV.sl none [PV.int .u8 (IntKind.wrap .u8 (IntKind.wrap .i64 ((97 : Int) + x1)))])),OV.flat (FV.val (PV.sl none [PV.int .u8 (118 : Int)]))]) fun r2 => needB (okOs Try.prog [4] [] (Prod.fst r2)) <|
 needB (okOuts Try.prog [25,23,23] [.io (.b [false]),.ro,.ro] (Prod.snd r2)) <|
 ifB (PV.toB (FV.pv (OV.fv (List.headD (Prod.fst r2) (OV.flat FV.gone)))))
 (some ([OV.flat (FV.val (PV.bool false))],[]))
 (self_l0 (PV.deref (FV.pv (List.headD (OV.cells (List.headD (Prod.snd r2) (OV.flat FV.gone))) FV.gone))) (IntKind.wrap .i64 (x1 + (1 : Int)))))
 (needB (Nat.blt 0 (List.length [PV.int .u8 (98 : Int)])) <|
 needB (Nat.blt 0 (List.length [PV.int .u8 (100 : Int)])) <|
 callB (rec 10 [OV.cont .box [FV.val (PV.ptr (some 3) x0)],OV.flat (FV.val (PV.agg [PV.sl none [PV.int .u8 (98 : Int)],PV.sl none [PV.int .u8 (100 : Int)],PV.bool true]))]) fun r3 => needB (okOs Try.prog [27] [] (Prod.fst r3)) <|
 needB (okOuts Try.prog [25,30] [.io (.b [false]),.ro] (Prod.snd r3)) <|
 needB (Nat.blt 0 (List.length [PV.int .u8 (99 : Int)])) <|
 callB (rec 13 [OV.cont .box [FV.val (PV.ptr (some 3) (PV.deref (FV.pv (List.headD (OV.cells (List.headD (Prod.snd r3) (OV.flat FV.gone))) FV.gone))))],OV.flat (FV.val (PV.sl none [PV.int .u8 (99 : Int)]))]) fun r4 => needB (okOs Try.prog [23,4] [.o,.v] (Prod.fst r4)) <|
 needB (okOuts Try.prog [25,23] [.io (.b [false]),.ro] (Prod.snd r4)) <|
 callB (rec 14 [OV.cont .box [FV.val (PV.ptr (some 3) (PV.deref (FV.pv (List.headD (OV.cells (List.headD (Prod.snd r4) (OV.flat FV.gone))) FV.gone))))]]) fun r5 => needB (okOs Try.prog [3] [] (Prod.fst r5)) <|
 needB (okOuts Try.prog [25] [.io (.b [false])] (Prod.snd r5)) <|
 ifB (PV.toI (FV.pv (OV.fv (List.headD (Prod.fst r5) (OV.flat FV.gone)))) == (5 : Int))
 (callB (rec 22 [OV.cont .box [FV.val (PV.ptr (some 3) (PV.deref (FV.pv (List.headD (OV.cells (List.headD (Prod.snd r5) (OV.flat FV.gone))) FV.gone))))]]) fun r6 => needB (okOs Try.prog [3] [] (Prod.fst r6)) <|
 needB (okOuts Try.prog [25] [.io (.b [false])] (Prod.snd r6)) <|
 ifB (PV.toI (FV.pv (OV.fv (List.headD (Prod.fst r6) (OV.flat FV.gone)))) == (2 : Int))
 (ifB (((List.length (PV.toL (FV.pv (OV.fv (List.headD (Prod.fst r3) (OV.flat FV.gone))))) : Nat) : Int) == (2 : Int))
 (needB (decide ((0 : Int) < ((List.length (PV.toL (FV.pv (OV.fv (List.headD (Prod.fst r3) (OV.flat FV.gone))))) : Nat) : Int))) <|
 needB (hasT Try.prog 33 (nthP (PV.toL (FV.pv (OV.fv (List.headD (Prod.fst r3) (OV.flat FV.gone))))) 0)) <|
 needB (List.all (PV.toL (List.headD (PV.cells (nthP (PV.toL (FV.pv (OV.fv (List.headD (Prod.fst r3) (OV.flat FV.gone))))) 0)) PV.undef)) isByte) <|
 ifB ((List.map u8Of (PV.toL (List.headD (PV.cells (nthP (PV.toL (FV.pv (OV.fv (List.headD (Prod.fst r3) (OV.flat FV.gone))))) 0)) PV.undef))) == ([98] : List UInt8))
 (ifB (PV.toB (FV.pv (OV.fv (List.headD (List.tail (Prod.fst r4)) (OV.flat FV.gone)))))
 (needB (List.all (FV.xs (OV.fv (List.headD (Prod.fst r4) (OV.flat FV.gone)))) isByte) <|
 some ([OV.flat (FV.val (PV.bool ((List.map u8Of (FV.xs (OV.fv (List.headD (Prod.fst r4) (OV.flat FV.gone))))) == ([118] : List UInt8))))],[]))
 (some ([OV.flat (FV.val (PV.bool false))],[])))
 (some ([OV.flat (FV.val (PV.bool false))],[])))
 (some ([OV.flat (FV.val (PV.bool false))],[])))
 (some ([OV.flat (FV.val (PV.bool false))],[])))
 (some ([OV.flat (FV.val (PV.bool false))],[])))
noncomputable def f8_vestrylaw14_small.l0 (rec : Rec) (n : Nat) : Nat → PV → Int → Option (List OV × List OV)
 | 0,_,_ => none
 | m + 1,x0,x1 => f8_vestrylaw14_small.l0.step rec n (f8_vestrylaw14_small.l0 rec n m) x0 x1
theorem f8_vestrylaw14_small.l0_eq (rec : Rec) (n : Nat) : ∀ (m : Nat) (x0 : PV) (x1 : Int),loopAt C rec n 8 [1,1,1,0,1,0] [] m [(1,SV.home (OV.cont .box [FV.val (PV.ptr (some 3) x0)])),(2,SV.home (OV.flat (FV.val (PV.int .i64 x1))))] = f8_vestrylaw14_small.l0 rec n m x0 x1
 | 0,x0,x1 => by kernel_rfl
 | m + 1,x0,x1 => by
   have ih : (fun x0 x1 => loopAt C rec n 8 [1,1,1,0,1,0] [] m [(1,SV.home (OV.cont .box [FV.val (PV.ptr (some 3) x0)])),(2,SV.home (OV.flat (FV.val (PV.int .i64 x1))))]) = f8_vestrylaw14_small.l0 rec n m:=funext fun x0 => funext fun x1 => f8_vestrylaw14_small.l0_eq rec n m x0 x1
   exact (show loopAt C rec n 8 [1,1,1,0,1,0] [] (m + 1) [(1,SV.home (OV.cont .box [FV.val (PV.ptr (some 3) x0)])),(2,SV.home (OV.flat (FV.val (PV.int .i64 x1))))] = f8_vestrylaw14_small.l0.step rec n (fun x0 x1 => loopAt C rec n 8 [1,1,1,0,1,0] [] m [(1,SV.home (OV.cont .box [FV.val (PV.ptr (some 3) x0)])),(2,SV.home (OV.flat (FV.val (PV.int .i64 x1))))]) x0 x1 from by kernel_rfl).trans (by rw [ih];rfl)
noncomputable def f8_vestrylaw14_small.pre (rec : Rec) (n : Nat) (l0 : PV → Int → Option (List OV × List OV))  : Option (List OV × List OV) :=
 callB (rec 17 []) fun r1 => needB (okOs Try.prog [25] [.b [false]] (Prod.fst r1)) <|
 l0 (PV.deref (FV.pv (List.headD (OV.cells (List.headD (Prod.fst r1) (OV.flat FV.gone))) FV.gone))) (0 : Int)
noncomputable def f8_vestrylaw14_small (rec : Rec) (n : Nat)  : Option (List OV × List OV):=f8_vestrylaw14_small.pre rec n (f8_vestrylaw14_small.l0 rec n n)
theorem f8_vestrylaw14_small_eq (rec : Rec) (n : Nat)  : callBody C rec n 8 [] = f8_vestrylaw14_small rec n  := by
 have i0 : (fun x0 x1 => loopAt C rec n 8 [1,1,1,0,1,0] [] n [(1,SV.home (OV.cont .box [FV.val (PV.ptr (some 3) x0)])),(2,SV.home (OV.flat (FV.val (PV.int .i64 x1))))]) = f8_vestrylaw14_small.l0 rec n n:=funext fun x0 => funext fun x1 => f8_vestrylaw14_small.l0_eq rec n n x0 x1
 exact (show callBody C rec n 8 [] = f8_vestrylaw14_small.pre rec n (fun x0 x1 => loopAt C rec n 8 [1,1,1,0,1,0] [] n [(1,SV.home (OV.cont .box [FV.val (PV.ptr (some 3) x0)])),(2,SV.home (OV.flat (FV.val (PV.int .i64 x1))))])  from by kernel_rfl).trans (by rw [i0];rfl)
noncomputable def f11_vestryref14_In (rec : Rec) (n : Nat) (a0 : List PV) (a1 : List PV) (a2 : Bool) (a3 : List PV) : Option (List OV × List OV) :=
 needB (List.all a3 isByte) <|
 needB (List.all a0 isByte) <|
 ifB (!(Op.bytesLess (List.map u8Of a3) (List.map u8Of a0)))
 (ifB (!a2)
 (some ([OV.flat (FV.val (PV.bool true))],[]))
 (needB (List.all a3 isByte) <|
 needB (List.all a1 isByte) <|
 some ([OV.flat (FV.val (PV.bool (Op.bytesLess (List.map u8Of a3) (List.map u8Of a1))))],[])))
 (some ([OV.flat (FV.val (PV.bool false))],[]))
theorem f11_vestryref14_In_eq (rec : Rec) (n : Nat) (a0 : List PV) (a1 : List PV) (a2 : Bool) (a3 : List PV) : callBody C rec n 11 [OV.flat (FV.val (PV.agg [PV.sl none a0,PV.sl none a1,PV.bool a2])),OV.flat (FV.val (PV.sl none a3))] = f11_vestryref14_In rec n a0 a1 a2 a3:=by kernel_rfl
noncomputable def f12_vestryref04_Same.l0.step (rec : Rec) (n : Nat) (self_l0 : List PV → List PV → Int → Option (List OV × List OV)) (x0 : List PV) (x1 : List PV) (x2 : Int) : Option (List OV × List OV) :=
 ifB (decide (x2 < ((List.length x0 : Nat) : Int)))
 (needB (decide ((0 : Int) ≤ x2)) <|
 needB (decide (x2 < ((List.length x0 : Nat) : Int))) <|
 needB (hasT Try.prog 33 (nthP x0 (Int.toNat x2))) <|
 needB (List.all (PV.toL (List.headD (PV.cells (nthP x0 (Int.toNat x2))) PV.undef)) isByte) <|
 needB (decide ((0 : Int) ≤ x2)) <|
 needB (decide (x2 < ((List.length x1 : Nat) : Int))) <|
 needB (hasT Try.prog 33 (nthP x1 (Int.toNat x2))) <|
 needB (List.all (PV.toL (List.headD (PV.cells (nthP x1 (Int.toNat x2))) PV.undef)) isByte) <|
 ifB (!((List.map u8Of (PV.toL (List.headD (PV.cells (nthP x0 (Int.toNat x2))) PV.undef))) == (List.map u8Of (PV.toL (List.headD (PV.cells (nthP x1 (Int.toNat x2))) PV.undef)))))
 (some ([OV.flat (FV.val (PV.bool false))],[]))
 (needB (decide ((0 : Int) ≤ x2)) <|
 needB (decide (x2 < ((List.length x0 : Nat) : Int))) <|
 needB (hasT Try.prog 33 (nthP x0 (Int.toNat x2))) <|
 needB (List.all (PV.toL (List.headD (List.tail (PV.cells (nthP x0 (Int.toNat x2)))) PV.undef)) isByte) <|
 needB (decide ((0 : Int) ≤ x2)) <|
 needB (decide (x2 < ((List.length x1 : Nat) : Int))) <|
 needB (hasT Try.prog 33 (nthP x1 (Int.toNat x2))) <|
 needB (List.all (PV.toL (List.headD (List.tail (PV.cells (nthP x1 (Int.toNat x2)))) PV.undef)) isByte) <|
 ifB (!((List.map u8Of (PV.toL (List.headD (List.tail (PV.cells (nthP x0 (Int.toNat x2)))) PV.undef))) == (List.map u8Of (PV.toL (List.headD (List.tail (PV.cells (nthP x1 (Int.toNat x2)))) PV.undef)))))
 (some ([OV.flat (FV.val (PV.bool false))],[]))
 (self_l0 x0 x1 (IntKind.wrap .i64 (x2 + (1 : Int))))))
 (some ([OV.flat (FV.val (PV.bool true))],[]))
noncomputable def f12_vestryref04_Same.l0 (rec : Rec) (n : Nat) : Nat → List PV → List PV → Int → Option (List OV × List OV)
 | 0,_,_,_ => none
 | m + 1,x0,x1,x2 => f12_vestryref04_Same.l0.step rec n (f12_vestryref04_Same.l0 rec n m) x0 x1 x2
theorem f12_vestryref04_Same.l0_eq (rec : Rec) (n : Nat) : ∀ (m : Nat) (x0 : List PV) (x1 : List PV) (x2 : Int),loopAt C rec n 12 [1,1,0,1,0] [] m [(0,SV.home (OV.flat (FV.val (PV.sl (some 2) x0)))),(1,SV.home (OV.flat (FV.val (PV.sl (some 2) x1)))),(5,SV.home (OV.flat (FV.val (PV.int .i64 x2))))] = f12_vestryref04_Same.l0 rec n m x0 x1 x2
 | 0,x0,x1,x2 => by kernel_rfl
 | m + 1,x0,x1,x2 => by
   have ih : (fun x0 x1 x2 => loopAt C rec n 12 [1,1,0,1,0] [] m [(0,SV.home (OV.flat (FV.val (PV.sl (some 2) x0)))),(1,SV.home (OV.flat (FV.val (PV.sl (some 2) x1)))),(5,SV.home (OV.flat (FV.val (PV.int .i64 x2))))]) = f12_vestryref04_Same.l0 rec n m:=funext fun x0 => funext fun x1 => funext fun x2 => f12_vestryref04_Same.l0_eq rec n m x0 x1 x2
   exact (show loopAt C rec n 12 [1,1,0,1,0] [] (m + 1) [(0,SV.home (OV.flat (FV.val (PV.sl (some 2) x0)))),(1,SV.home (OV.flat (FV.val (PV.sl (some 2) x1)))),(5,SV.home (OV.flat (FV.val (PV.int .i64 x2))))] = f12_vestryref04_Same.l0.step rec n (fun x0 x1 x2 => loopAt C rec n 12 [1,1,0,1,0] [] m [(0,SV.home (OV.flat (FV.val (PV.sl (some 2) x0)))),(1,SV.home (OV.flat (FV.val (PV.sl (some 2) x1)))),(5,SV.home (OV.flat (FV.val (PV.int .i64 x2))))]) x0 x1 x2 from by kernel_rfl).trans (by rw [ih];rfl)
noncomputable def f12_vestryref04_Same.pre (rec : Rec) (n : Nat) (l0 : List PV → List PV → Int → Option (List OV × List OV)) (a0 : List PV) (a1 : List PV) : Option (List OV × List OV) :=
 ifB (((List.length a0 : Nat) : Int) != ((List.length a1 : Nat) : Int))
 (some ([OV.flat (FV.val (PV.bool false))],[]))
 (l0 a0 a1 (0 : Int))
noncomputable def f12_vestryref04_Same (rec : Rec) (n : Nat) (a0 : List PV) (a1 : List PV) : Option (List OV × List OV):=f12_vestryref04_Same.pre rec n (f12_vestryref04_Same.l0 rec n n) a0 a1
theorem f12_vestryref04_Same_eq (rec : Rec) (n : Nat) (a0 : List PV) (a1 : List PV) : callBody C rec n 12 [OV.flat (FV.val (PV.sl (some 2) a0)),OV.flat (FV.val (PV.sl (some 2) a1))] = f12_vestryref04_Same rec n a0 a1:=by
 have i0 : (fun x0 x1 x2 => loopAt C rec n 12 [1,1,0,1,0] [] n [(0,SV.home (OV.flat (FV.val (PV.sl (some 2) x0)))),(1,SV.home (OV.flat (FV.val (PV.sl (some 2) x1)))),(5,SV.home (OV.flat (FV.val (PV.int .i64 x2))))]) = f12_vestryref04_Same.l0 rec n n:=funext fun x0 => funext fun x1 => funext fun x2 => f12_vestryref04_Same.l0_eq rec n n x0 x1 x2
 exact (show callBody C rec n 12 [OV.flat (FV.val (PV.sl (some 2) a0)),OV.flat (FV.val (PV.sl (some 2) a1))] = f12_vestryref04_Same.pre rec n (fun x0 x1 x2 => loopAt C rec n 12 [1,1,0,1,0] [] n [(0,SV.home (OV.flat (FV.val (PV.sl (some 2) x0)))),(1,SV.home (OV.flat (FV.val (PV.sl (some 2) x1)))),(5,SV.home (OV.flat (FV.val (PV.int .i64 x2))))]) a0 a1 from by kernel_rfl).trans (by rw [i0];rfl)
noncomputable def f13_btree_Tree_Get (rec : Rec) (n : Nat) (a0 : PV) (a1 : List PV) : Option (List OV × List OV) :=
 callB (rec 26 [OV.cont .box [FV.val (PV.ptr (some 3) a0)],OV.flat (FV.val (PV.sl none a1))]) fun r1 => needB (okOs Try.prog [33,4] [] (Prod.fst r1)) <|
 needB (okOuts Try.prog [25,23] [.io (.b [false]),.ro] (Prod.snd r1)) <|
 callB (rec 27 [OV.flat (FV.val (PV.sl none (PV.toL (List.headD (List.tail (PV.cells (FV.pv (OV.fv (List.headD (Prod.fst r1) (OV.flat FV.gone)))))) PV.undef))))]) fun r2 => needB (okOs Try.prog [23] [.o] (Prod.fst r2)) <|
 some ([OV.flat (FV.own none (FV.xs (OV.fv (List.headD (Prod.fst r2) (OV.flat FV.gone)))) []),OV.flat (FV.val (PV.bool (PV.toB (FV.pv (OV.fv (List.headD (List.tail (Prod.fst r1)) (OV.flat FV.gone)))))))],[OV.cont .box [FV.val (PV.ptr (some 3) (PV.deref (FV.pv (List.headD (OV.cells (List.headD (Prod.snd r1) (OV.flat FV.gone))) FV.gone))))],OV.flat FV.gone])
theorem f13_btree_Tree_Get_eq (rec : Rec) (n : Nat) (a0 : PV) (a1 : List PV) : callBody C rec n 13 [OV.cont .box [FV.val (PV.ptr (some 3) a0)],OV.flat (FV.val (PV.sl none a1))] = f13_btree_Tree_Get rec n a0 a1:=by kernel_rfl
noncomputable def f14_btree_Tree_Count (rec : Rec) (n : Nat) (a0 : PV) : Option (List OV × List OV) :=
 needB (isPtrS (PV.ptr (some 3) a0) && hasT Try.prog 63 (PV.deref (PV.ptr (some 3) a0))) <|
 some ([OV.flat (FV.val (PV.int .i64 (PV.toI (List.headD (List.tail (List.tail (PV.cells (PV.deref (PV.ptr (some 3) a0))))) PV.undef))))],[OV.cont .box [FV.val (PV.ptr (some 3) a0)]])
theorem f14_btree_Tree_Count_eq (rec : Rec) (n : Nat) (a0 : PV) : callBody C rec n 14 [OV.cont .box [FV.val (PV.ptr (some 3) a0)]] = f14_btree_Tree_Count rec n a0:=by kernel_rfl
noncomputable def f15_btree_Tree_Put (rec : Rec) (n : Nat) (a0 : PV) (a1 : List PV) (a2 : List PV) : Option (List OV × List OV) :=
 callB (rec 26 [OV.cont .box [FV.val (PV.ptr (some 3) a0)],OV.flat (FV.val (PV.sl none a1))]) fun r1 => needB (okOs Try.prog [33,4] [] (Prod.fst r1)) <|
 needB (okOuts Try.prog [25,23] [.io (.b [false]),.ro] (Prod.snd r1)) <|
 callB (rec 27 [OV.flat (FV.val (PV.sl none a1))]) fun r2 => needB (okOs Try.prog [23] [.o] (Prod.fst r2)) <|
 callB (rec 27 [OV.flat (FV.val (PV.sl none a2))]) fun r3 => needB (okOs Try.prog [23] [.o] (Prod.fst r3)) <|
 callB (rec 28 [OV.flat (FV.val (PV.ptr (some 3) (PV.deref (FV.pv (List.headD (OV.cells (List.headD (Prod.snd r1) (OV.flat FV.gone))) FV.gone))))),OV.flat (FV.val (PV.agg [PV.sl none (FV.xs (OV.fv (List.headD (Prod.fst r2) (OV.flat FV.gone)))),PV.sl none (FV.xs (OV.fv (List.headD (Prod.fst r3) (OV.flat FV.gone))))]))]) fun r4 => needB (okOs Try.prog [61] [.o] (Prod.fst r4)) <|
 needB (decide ((0 : Int) < ((List.length (FV.xs (OV.fv (List.headD (Prod.fst r4) (OV.flat FV.gone)))) : Nat) : Int))) <|
 needB (Nat.blt 0 (List.length (FV.xs (OV.fv (List.headD (Prod.fst r4) (OV.flat FV.gone)))))) <|
 needB (hasT Try.prog 55 (nthP (FV.xs (OV.fv (List.headD (Prod.fst r4) (OV.flat FV.gone)))) 0)) <|
 ifB (decide (((List.length (FV.xs (OV.fv (List.headD (Prod.fst r4) (OV.flat FV.gone)))) : Nat) : Int) > (1 : Int)))
 (callB (rec 29 [OV.flat (FV.val (PV.sl none (FV.xs (OV.fv (List.headD (Prod.fst r4) (OV.flat FV.gone))))))]) fun r5 => needB (okOs Try.prog [55] [] (Prod.fst r5)) <|
 some ([OV.flat (FV.val (PV.bool (PV.toB (FV.pv (OV.fv (List.headD (List.tail (Prod.fst r1)) (OV.flat FV.gone)))))))],[OV.cont .box [FV.val (PV.ptr (some 3) (PV.deref (FV.pv (OV.fv (List.headD (Prod.fst r5) (OV.flat FV.gone))))))],OV.flat FV.gone,OV.flat FV.gone]))
 (some ([OV.flat (FV.val (PV.bool (PV.toB (FV.pv (OV.fv (List.headD (List.tail (Prod.fst r1)) (OV.flat FV.gone)))))))],[OV.cont .box [FV.val (PV.ptr (some 3) (PV.deref (nthP (FV.xs (OV.fv (List.headD (Prod.fst r4) (OV.flat FV.gone)))) 0)))],OV.flat FV.gone,OV.flat FV.gone]))
theorem f15_btree_Tree_Put_eq (rec : Rec) (n : Nat) (a0 : PV) (a1 : List PV) (a2 : List PV) : callBody C rec n 15 [OV.cont .box [FV.val (PV.ptr (some 3) a0)],OV.flat (FV.val (PV.sl none a1)),OV.flat (FV.val (PV.sl none a2))] = f15_btree_Tree_Put rec n a0 a1 a2:=by kernel_rfl
noncomputable def f17_btree_New (rec : Rec) (n : Nat)  : Option (List OV × List OV) :=
 callB (rec 31 [OV.flat (FV.val (PV.sl (some 2) []))]) fun r1 => needB (okOs Try.prog [55] [] (Prod.fst r1)) <|
 some ([OV.cont .box [FV.val (PV.ptr (some 3) (PV.deref (FV.pv (OV.fv (List.headD (Prod.fst r1) (OV.flat FV.gone))))))]],[])
theorem f17_btree_New_eq (rec : Rec) (n : Nat)  : callBody C rec n 17 [] = f17_btree_New rec n  := by kernel_rfl
noncomputable def f18_btree_Tree_Clone (rec : Rec) (n : Nat) (a0 : PV) : Option (List OV × List OV) :=
 some ([OV.cont .box [FV.val (PV.ptr (some 3) a0)]],[OV.cont .box [FV.val (PV.ptr (some 3) a0)]])
theorem f18_btree_Tree_Clone_eq (rec : Rec) (n : Nat) (a0 : PV) : callBody C rec n 18 [OV.cont .box [FV.val (PV.ptr (some 3) a0)]] = f18_btree_Tree_Clone rec n a0:=by kernel_rfl
noncomputable def f22_btree_Tree_Depth.l0.step (rec : Rec) (n : Nat) (self_l0 : PV → Int → PV → Option (List OV × List OV)) (x0 : PV) (x1 : Int) (x2 : PV) : Option (List OV × List OV) :=
 needB (isPtrS (PV.ptr (some 3) x2) && hasT Try.prog 63 (PV.deref (PV.ptr (some 3) x2))) <|
 ifB (decide (((List.length (PV.toL (List.headD (List.tail (PV.cells (PV.deref (PV.ptr (some 3) x2)))) PV.undef)) : Nat) : Int) > (0 : Int)))
 (needB (isPtrS (PV.ptr (some 3) x2) && hasT Try.prog 63 (PV.deref (PV.ptr (some 3) x2))) <|
 needB (decide ((0 : Int) < ((List.length (PV.toL (List.headD (List.tail (PV.cells (PV.deref (PV.ptr (some 3) x2)))) PV.undef)) : Nat) : Int))) <|
 needB (hasT Try.prog 55 (nthP (PV.toL (List.headD (List.tail (PV.cells (PV.deref (PV.ptr (some 3) x2)))) PV.undef)) 0)) <|
 self_l0 x0 (IntKind.wrap .i64 (x1 + (1 : Int))) (PV.deref (nthP (PV.toL (List.headD (List.tail (PV.cells (PV.deref (PV.ptr (some 3) x2)))) PV.undef)) 0)))
 (some ([OV.flat (FV.val (PV.int .i64 x1))],[OV.cont .box [FV.val (PV.ptr (some 3) x0)]]))
noncomputable def f22_btree_Tree_Depth.l0 (rec : Rec) (n : Nat) : Nat → PV → Int → PV → Option (List OV × List OV)
 | 0,_,_,_ => none
 | m + 1,x0,x1,x2 => f22_btree_Tree_Depth.l0.step rec n (f22_btree_Tree_Depth.l0 rec n m) x0 x1 x2
theorem f22_btree_Tree_Depth.l0_eq (rec : Rec) (n : Nat) : ∀ (m : Nat) (x0 : PV) (x1 : Int) (x2 : PV),loopAt C rec n 22 [1,1,0,1,0] [] m [(0,SV.home (OV.cont .box [FV.val (PV.ptr (some 3) x0)])),(3,SV.home (OV.flat (FV.val (PV.int .i64 x1)))),(4,SV.home (OV.flat (FV.val (PV.ptr (some 3) x2))))] = f22_btree_Tree_Depth.l0 rec n m x0 x1 x2
 | 0,x0,x1,x2 => by kernel_rfl
 | m + 1,x0,x1,x2 => by
   have ih : (fun x0 x1 x2 => loopAt C rec n 22 [1,1,0,1,0] [] m [(0,SV.home (OV.cont .box [FV.val (PV.ptr (some 3) x0)])),(3,SV.home (OV.flat (FV.val (PV.int .i64 x1)))),(4,SV.home (OV.flat (FV.val (PV.ptr (some 3) x2))))]) = f22_btree_Tree_Depth.l0 rec n m:=funext fun x0 => funext fun x1 => funext fun x2 => f22_btree_Tree_Depth.l0_eq rec n m x0 x1 x2
   exact (show loopAt C rec n 22 [1,1,0,1,0] [] (m + 1) [(0,SV.home (OV.cont .box [FV.val (PV.ptr (some 3) x0)])),(3,SV.home (OV.flat (FV.val (PV.int .i64 x1)))),(4,SV.home (OV.flat (FV.val (PV.ptr (some 3) x2))))] = f22_btree_Tree_Depth.l0.step rec n (fun x0 x1 x2 => loopAt C rec n 22 [1,1,0,1,0] [] m [(0,SV.home (OV.cont .box [FV.val (PV.ptr (some 3) x0)])),(3,SV.home (OV.flat (FV.val (PV.int .i64 x1)))),(4,SV.home (OV.flat (FV.val (PV.ptr (some 3) x2))))]) x0 x1 x2 from by kernel_rfl).trans (by rw [ih];rfl)
noncomputable def f22_btree_Tree_Depth.pre (rec : Rec) (n : Nat) (l0 : PV → Int → PV → Option (List OV × List OV)) (a0 : PV) : Option (List OV × List OV) :=
 l0 a0 (1 : Int) a0
noncomputable def f22_btree_Tree_Depth (rec : Rec) (n : Nat) (a0 : PV) : Option (List OV × List OV):=f22_btree_Tree_Depth.pre rec n (f22_btree_Tree_Depth.l0 rec n n) a0
theorem f22_btree_Tree_Depth_eq (rec : Rec) (n : Nat) (a0 : PV) : callBody C rec n 22 [OV.cont .box [FV.val (PV.ptr (some 3) a0)]] = f22_btree_Tree_Depth rec n a0:=by
 have i0 : (fun x0 x1 x2 => loopAt C rec n 22 [1,1,0,1,0] [] n [(0,SV.home (OV.cont .box [FV.val (PV.ptr (some 3) x0)])),(3,SV.home (OV.flat (FV.val (PV.int .i64 x1)))),(4,SV.home (OV.flat (FV.val (PV.ptr (some 3) x2))))]) = f22_btree_Tree_Depth.l0 rec n n:=funext fun x0 => funext fun x1 => funext fun x2 => f22_btree_Tree_Depth.l0_eq rec n n x0 x1 x2
 exact (show callBody C rec n 22 [OV.cont .box [FV.val (PV.ptr (some 3) a0)]] = f22_btree_Tree_Depth.pre rec n (fun x0 x1 x2 => loopAt C rec n 22 [1,1,0,1,0] [] n [(0,SV.home (OV.cont .box [FV.val (PV.ptr (some 3) x0)])),(3,SV.home (OV.flat (FV.val (PV.int .i64 x1)))),(4,SV.home (OV.flat (FV.val (PV.ptr (some 3) x2))))]) a0 from by kernel_rfl).trans (by rw [i0];rfl)
noncomputable def f24_btree_page_place (rec : Rec) (n : Nat) (a0 : PV) (a1 : List PV) : Option (List OV × List OV) :=
 needB (isPtrS (PV.ptr (some 3) a0) && hasT Try.prog 63 (PV.deref (PV.ptr (some 3) a0))) <|
 callB (rec 40 [OV.flat (FV.val (PV.sl (some 2) (PV.toL (List.headD (PV.cells (PV.deref (PV.ptr (some 3) a0))) PV.undef)))),OV.flat (FV.val (PV.sl none a1)),OV.flat (FV.val (PV.fn (Fn.func 41) [] []))]) fun r1 => needB (okOs Try.prog [3,4] [] (Prod.fst r1)) <|
 some ([OV.flat (FV.val (PV.int .i64 (PV.toI (FV.pv (OV.fv (List.headD (Prod.fst r1) (OV.flat FV.gone))))))),OV.flat (FV.val (PV.bool (PV.toB (FV.pv (OV.fv (List.headD (List.tail (Prod.fst r1)) (OV.flat FV.gone)))))))],[])
theorem f24_btree_page_place_eq (rec : Rec) (n : Nat) (a0 : PV) (a1 : List PV) : callBody C rec n 24 [OV.flat (FV.val (PV.ptr (some 3) a0)),OV.flat (FV.val (PV.sl none a1))] = f24_btree_page_place rec n a0 a1:=by kernel_rfl
noncomputable def f26_btree_Tree_find.l0.step (rec : Rec) (n : Nat) (self_l0 : PV → List PV → PV → Option (List OV × List OV)) (x0 : PV) (x1 : List PV) (x2 : PV) : Option (List OV × List OV) :=
 needB (isPtrS (PV.ptr (some 3) x2) && hasT Try.prog 63 (PV.deref (PV.ptr (some 3) x2))) <|
 ifB (((List.length (PV.toL (List.headD (List.tail (PV.cells (PV.deref (PV.ptr (some 3) x2)))) PV.undef)) : Nat) : Int) == (0 : Int))
 (callB (rec 24 [OV.flat (FV.val (PV.ptr (some 3) x2)),OV.flat (FV.val (PV.sl none x1))]) fun r1 => needB (okOs Try.prog [3,4] [] (Prod.fst r1)) <|
 ifB (PV.toB (FV.pv (OV.fv (List.headD (List.tail (Prod.fst r1)) (OV.flat FV.gone)))))
 (needB (isPtrS (PV.ptr (some 3) x2) && hasT Try.prog 63 (PV.deref (PV.ptr (some 3) x2))) <|
 needB (decide ((0 : Int) ≤ PV.toI (FV.pv (OV.fv (List.headD (Prod.fst r1) (OV.flat FV.gone)))))) <|
 needB (decide (PV.toI (FV.pv (OV.fv (List.headD (Prod.fst r1) (OV.flat FV.gone)))) < ((List.length (PV.toL (List.headD (PV.cells (PV.deref (PV.ptr (some 3) x2))) PV.undef)) : Nat) : Int))) <|
 needB (hasT Try.prog 33 (nthP (PV.toL (List.headD (PV.cells (PV.deref (PV.ptr (some 3) x2))) PV.undef)) (Int.toNat (PV.toI (FV.pv (OV.fv (List.headD (Prod.fst r1) (OV.flat FV.gone)))))))) <|
 some ([OV.flat (FV.val (PV.agg [PV.sl none (PV.toL (List.headD (PV.cells (nthP (PV.toL (List.headD (PV.cells (PV.deref (PV.ptr (some 3) x2))) PV.undef)) (Int.toNat (PV.toI (FV.pv (OV.fv (List.headD (Prod.fst r1) (OV.flat FV.gone)))))))) PV.undef)),PV.sl none (PV.toL (List.headD (List.tail (PV.cells (nthP (PV.toL (List.headD (PV.cells (PV.deref (PV.ptr (some 3) x2))) PV.undef)) (Int.toNat (PV.toI (FV.pv (OV.fv (List.headD (Prod.fst r1) (OV.flat FV.gone))))))))) PV.undef))])),OV.flat (FV.val (PV.bool (PV.toB (FV.pv (OV.fv (List.headD (List.tail (Prod.fst r1)) (OV.flat FV.gone)))))))],[OV.cont .box [FV.val (PV.ptr (some 3) x0)],OV.flat FV.gone]))
 (some ([OV.flat (FV.val (PV.agg [PV.sl none [],PV.sl none []])),OV.flat (FV.val (PV.bool (PV.toB (FV.pv (OV.fv (List.headD (List.tail (Prod.fst r1)) (OV.flat FV.gone)))))))],[OV.cont .box [FV.val (PV.ptr (some 3) x0)],OV.flat FV.gone])))
 (needB (isPtrS (PV.ptr (some 3) x2) && hasT Try.prog 63 (PV.deref (PV.ptr (some 3) x2))) <|
 callB (rec 43 [OV.flat (FV.val (PV.ptr (some 3) x2)),OV.flat (FV.val (PV.sl none x1))]) fun r2 => needB (okOs Try.prog [3] [] (Prod.fst r2)) <|
 needB (decide ((0 : Int) ≤ PV.toI (FV.pv (OV.fv (List.headD (Prod.fst r2) (OV.flat FV.gone)))))) <|
 needB (decide (PV.toI (FV.pv (OV.fv (List.headD (Prod.fst r2) (OV.flat FV.gone)))) < ((List.length (PV.toL (List.headD (List.tail (PV.cells (PV.deref (PV.ptr (some 3) x2)))) PV.undef)) : Nat) : Int))) <|
 needB (hasT Try.prog 55 (nthP (PV.toL (List.headD (List.tail (PV.cells (PV.deref (PV.ptr (some 3) x2)))) PV.undef)) (Int.toNat (PV.toI (FV.pv (OV.fv (List.headD (Prod.fst r2) (OV.flat FV.gone)))))))) <|
 self_l0 x0 x1 (PV.deref (nthP (PV.toL (List.headD (List.tail (PV.cells (PV.deref (PV.ptr (some 3) x2)))) PV.undef)) (Int.toNat (PV.toI (FV.pv (OV.fv (List.headD (Prod.fst r2) (OV.flat FV.gone)))))))))
noncomputable def f26_btree_Tree_find.l0 (rec : Rec) (n : Nat) : Nat → PV → List PV → PV → Option (List OV × List OV)
 | 0,_,_,_ => none
 | m + 1,x0,x1,x2 => f26_btree_Tree_find.l0.step rec n (f26_btree_Tree_find.l0 rec n m) x0 x1 x2
theorem f26_btree_Tree_find.l0_eq (rec : Rec) (n : Nat) : ∀ (m : Nat) (x0 : PV) (x1 : List PV) (x2 : PV),loopAt C rec n 26 [1,0,1,1,0,0] [] m [(0,SV.home (OV.cont .box [FV.val (PV.ptr (some 3) x0)])),(1,SV.home (OV.flat (FV.val (PV.sl none x1)))),(4,SV.home (OV.cont .box [FV.nil none,FV.nil none])),(6,SV.home (OV.flat (FV.val (PV.ptr (some 3) x2))))] = f26_btree_Tree_find.l0 rec n m x0 x1 x2
 | 0,x0,x1,x2 => by kernel_rfl
 | m + 1,x0,x1,x2 => by
   have ih : (fun x0 x1 x2 => loopAt C rec n 26 [1,0,1,1,0,0] [] m [(0,SV.home (OV.cont .box [FV.val (PV.ptr (some 3) x0)])),(1,SV.home (OV.flat (FV.val (PV.sl none x1)))),(4,SV.home (OV.cont .box [FV.nil none,FV.nil none])),(6,SV.home (OV.flat (FV.val (PV.ptr (some 3) x2))))]) = f26_btree_Tree_find.l0 rec n m:=funext fun x0 => funext fun x1 => funext fun x2 => f26_btree_Tree_find.l0_eq rec n m x0 x1 x2
   exact (show loopAt C rec n 26 [1,0,1,1,0,0] [] (m + 1) [(0,SV.home (OV.cont .box [FV.val (PV.ptr (some 3) x0)])),(1,SV.home (OV.flat (FV.val (PV.sl none x1)))),(4,SV.home (OV.cont .box [FV.nil none,FV.nil none])),(6,SV.home (OV.flat (FV.val (PV.ptr (some 3) x2))))] = f26_btree_Tree_find.l0.step rec n (fun x0 x1 x2 => loopAt C rec n 26 [1,0,1,1,0,0] [] m [(0,SV.home (OV.cont .box [FV.val (PV.ptr (some 3) x0)])),(1,SV.home (OV.flat (FV.val (PV.sl none x1)))),(4,SV.home (OV.cont .box [FV.nil none,FV.nil none])),(6,SV.home (OV.flat (FV.val (PV.ptr (some 3) x2))))]) x0 x1 x2 from by kernel_rfl).trans (by rw [ih];rfl)
noncomputable def f26_btree_Tree_find.pre (rec : Rec) (n : Nat) (l0 : PV → List PV → PV → Option (List OV × List OV)) (a0 : PV) (a1 : List PV) : Option (List OV × List OV) :=
 l0 a0 a1 a0
noncomputable def f26_btree_Tree_find (rec : Rec) (n : Nat) (a0 : PV) (a1 : List PV) : Option (List OV × List OV):=f26_btree_Tree_find.pre rec n (f26_btree_Tree_find.l0 rec n n) a0 a1
theorem f26_btree_Tree_find_eq (rec : Rec) (n : Nat) (a0 : PV) (a1 : List PV) : callBody C rec n 26 [OV.cont .box [FV.val (PV.ptr (some 3) a0)],OV.flat (FV.val (PV.sl none a1))] = f26_btree_Tree_find rec n a0 a1:=by
 have i0 : (fun x0 x1 x2 => loopAt C rec n 26 [1,0,1,1,0,0] [] n [(0,SV.home (OV.cont .box [FV.val (PV.ptr (some 3) x0)])),(1,SV.home (OV.flat (FV.val (PV.sl none x1)))),(4,SV.home (OV.cont .box [FV.nil none,FV.nil none])),(6,SV.home (OV.flat (FV.val (PV.ptr (some 3) x2))))]) = f26_btree_Tree_find.l0 rec n n:=funext fun x0 => funext fun x1 => funext fun x2 => f26_btree_Tree_find.l0_eq rec n n x0 x1 x2
 exact (show callBody C rec n 26 [OV.cont .box [FV.val (PV.ptr (some 3) a0)],OV.flat (FV.val (PV.sl none a1))] = f26_btree_Tree_find.pre rec n (fun x0 x1 x2 => loopAt C rec n 26 [1,0,1,1,0,0] [] n [(0,SV.home (OV.cont .box [FV.val (PV.ptr (some 3) x0)])),(1,SV.home (OV.flat (FV.val (PV.sl none x1)))),(4,SV.home (OV.cont .box [FV.nil none,FV.nil none])),(6,SV.home (OV.flat (FV.val (PV.ptr (some 3) x2))))]) a0 a1 from by kernel_rfl).trans (by rw [i0];rfl)
noncomputable def f28_btree_page_put (rec : Rec) (n : Nat) (a0 : PV) (a1 : List PV) (a2 : List PV) : Option (List OV × List OV) :=
 needB (isPtrS (PV.ptr (some 3) a0) && hasT Try.prog 63 (PV.deref (PV.ptr (some 3) a0))) <|
 ifB (((List.length (PV.toL (List.headD (List.tail (PV.cells (PV.deref (PV.ptr (some 3) a0)))) PV.undef)) : Nat) : Int) == (0 : Int))
 (callB (rec 24 [OV.flat (FV.val (PV.ptr (some 3) a0)),OV.flat (FV.val (PV.sl none a1))]) fun r1 => needB (okOs Try.prog [3,4] [] (Prod.fst r1)) <|
 needB (isPtrS (PV.ptr (some 3) a0) && hasT Try.prog 63 (PV.deref (PV.ptr (some 3) a0))) <|
 callB (rec 44 [OV.flat (FV.val (PV.sl (some 2) (PV.toL (List.headD (PV.cells (PV.deref (PV.ptr (some 3) a0))) PV.undef))))]) fun r2 => needB (okOs Try.prog [27] [.o] (Prod.fst r2)) <|
 ifB (PV.toB (FV.pv (OV.fv (List.headD (List.tail (Prod.fst r1)) (OV.flat FV.gone)))))
 (needB (decide ((0 : Int) ≤ PV.toI (FV.pv (OV.fv (List.headD (Prod.fst r1) (OV.flat FV.gone)))))) <|
 needB (decide (PV.toI (FV.pv (OV.fv (List.headD (Prod.fst r1) (OV.flat FV.gone)))) < ((List.length (FV.xs (OV.fv (List.headD (Prod.fst r2) (OV.flat FV.gone)))) : Nat) : Int))) <|
 needB (Nat.blt (Int.toNat (PV.toI (FV.pv (OV.fv (List.headD (Prod.fst r1) (OV.flat FV.gone)))))) (List.length (FV.xs (OV.fv (List.headD (Prod.fst r2) (OV.flat FV.gone)))))) <|
 callB (rec 46 [OV.flat (FV.val (PV.sl (some 2) (List.set (FV.xs (OV.fv (List.headD (Prod.fst r2) (OV.flat FV.gone)))) (Int.toNat (PV.toI (FV.pv (OV.fv (List.headD (Prod.fst r1) (OV.flat FV.gone)))))) (PV.agg [PV.sl none a1,PV.sl none a2]))))]) fun r3 => needB (okOs Try.prog [61] [.o] (Prod.fst r3)) <|
 some ([OV.flat (FV.own none (FV.xs (OV.fv (List.headD (Prod.fst r3) (OV.flat FV.gone)))) [])],[]))
 (callB (rec 45 [OV.flat (FV.own (some 2) (FV.xs (OV.fv (List.headD (Prod.fst r2) (OV.flat FV.gone)))) []),OV.flat (FV.val (PV.int .i64 (PV.toI (FV.pv (OV.fv (List.headD (Prod.fst r1) (OV.flat FV.gone))))))),OV.flat (FV.own (some 2) [PV.agg [PV.sl none a1,PV.sl none a2]] [])]) fun r4 => needB (okOs Try.prog [27] [.o] (Prod.fst r4)) <|
 callB (rec 46 [OV.flat (FV.val (PV.sl (some 2) (FV.xs (OV.fv (List.headD (Prod.fst r4) (OV.flat FV.gone))))))]) fun r5 => needB (okOs Try.prog [61] [.o] (Prod.fst r5)) <|
 some ([OV.flat (FV.own none (FV.xs (OV.fv (List.headD (Prod.fst r5) (OV.flat FV.gone)))) [])],[])))
 (callB (rec 43 [OV.flat (FV.val (PV.ptr (some 3) a0)),OV.flat (FV.val (PV.sl none a1))]) fun r6 => needB (okOs Try.prog [3] [] (Prod.fst r6)) <|
 needB (isPtrS (PV.ptr (some 3) a0) && hasT Try.prog 63 (PV.deref (PV.ptr (some 3) a0))) <|
 callB (rec 49 [OV.flat (FV.val (PV.sl none (PV.toL (List.headD (List.tail (PV.cells (PV.deref (PV.ptr (some 3) a0)))) PV.undef))))]) fun r7 => needB (okOs Try.prog [61] [.o] (Prod.fst r7)) <|
 needB (isPtrS (PV.ptr (some 3) a0) && hasT Try.prog 63 (PV.deref (PV.ptr (some 3) a0))) <|
 needB (decide ((0 : Int) ≤ PV.toI (FV.pv (OV.fv (List.headD (Prod.fst r6) (OV.flat FV.gone)))))) <|
 needB (decide (PV.toI (FV.pv (OV.fv (List.headD (Prod.fst r6) (OV.flat FV.gone)))) < ((List.length (PV.toL (List.headD (List.tail (PV.cells (PV.deref (PV.ptr (some 3) a0)))) PV.undef)) : Nat) : Int))) <|
 needB (hasT Try.prog 55 (nthP (PV.toL (List.headD (List.tail (PV.cells (PV.deref (PV.ptr (some 3) a0)))) PV.undef)) (Int.toNat (PV.toI (FV.pv (OV.fv (List.headD (Prod.fst r6) (OV.flat FV.gone)))))))) <|
 callB (rec 28 [OV.flat (FV.val (PV.ptr (some 3) (PV.deref (nthP (PV.toL (List.headD (List.tail (PV.cells (PV.deref (PV.ptr (some 3) a0)))) PV.undef)) (Int.toNat (PV.toI (FV.pv (OV.fv (List.headD (Prod.fst r6) (OV.flat FV.gone)))))))))),OV.flat (FV.val (PV.agg [PV.sl none a1,PV.sl none a2]))]) fun r8 => needB (okOs Try.prog [61] [.o] (Prod.fst r8)) <|
 callB (rec 48 [OV.flat (FV.own none (FV.xs (OV.fv (List.headD (Prod.fst r7) (OV.flat FV.gone)))) []),OV.flat (FV.val (PV.int .i64 (PV.toI (FV.pv (OV.fv (List.headD (Prod.fst r6) (OV.flat FV.gone))))))),OV.flat (FV.val (PV.int .i64 (IntKind.wrap .i64 (PV.toI (FV.pv (OV.fv (List.headD (Prod.fst r6) (OV.flat FV.gone)))) + (1 : Int))))),OV.flat (FV.own none (FV.xs (OV.fv (List.headD (Prod.fst r8) (OV.flat FV.gone)))) [])]) fun r9 => needB (okOs Try.prog [61] [.o] (Prod.fst r9)) <|
 callB (rec 47 [OV.flat (FV.val (PV.sl none (FV.xs (OV.fv (List.headD (Prod.fst r9) (OV.flat FV.gone))))))]) fun r10 => needB (okOs Try.prog [61] [.o] (Prod.fst r10)) <|
 some ([OV.flat (FV.own none (FV.xs (OV.fv (List.headD (Prod.fst r10) (OV.flat FV.gone)))) [])],[]))
theorem f28_btree_page_put_eq (rec : Rec) (n : Nat) (a0 : PV) (a1 : List PV) (a2 : List PV) : callBody C rec n 28 [OV.flat (FV.val (PV.ptr (some 3) a0)),OV.flat (FV.val (PV.agg [PV.sl none a1,PV.sl none a2]))] = f28_btree_page_put rec n a0 a1 a2:=by kernel_rfl
noncomputable def f29_btree_over.l0.step (rec : Rec) (n : Nat) (self_l0 : List PV → List PV → Int → List PV → Int → Int → Option (List OV × List OV)) (x0 : List PV) (x1 : List PV) (x2 : Int) (x3 : List PV) (x4 : Int) (x5 : Int) : Option (List OV × List OV) :=
 ifB (decide (x5 < x4))
 (needB (decide ((0 : Int) ≤ x5)) <|
 needB (decide (x5 < ((List.length x3 : Nat) : Int))) <|
 needB (hasT Try.prog 55 (nthP x3 (Int.toNat x5))) <|
 needB (isPtrS (PV.ptr (some 3) (PV.deref (nthP x3 (Int.toNat x5)))) && hasT Try.prog 63 (PV.deref (PV.ptr (some 3) (PV.deref (nthP x3 (Int.toNat x5)))))) <|
 self_l0 x0 x1 (IntKind.wrap .i64 (x2 + PV.toI (List.headD (List.tail (List.tail (PV.cells (PV.deref (PV.ptr (some 3) (PV.deref (nthP x3 (Int.toNat x5)))))))) PV.undef))) x3 x4 (IntKind.wrap .i64 (x5 + (1 : Int))))
 (some ([OV.cont .box [FV.val (PV.sl (some 2) x0),FV.val (PV.sl none x1),FV.val (PV.int .i64 x2)]],[]))
noncomputable def f29_btree_over.l0 (rec : Rec) (n : Nat) : Nat → List PV → List PV → Int → List PV → Int → Int → Option (List OV × List OV)
 | 0,_,_,_,_,_,_ => none
 | m + 1,x0,x1,x2,x3,x4,x5 => f29_btree_over.l0.step rec n (f29_btree_over.l0 rec n m) x0 x1 x2 x3 x4 x5
theorem f29_btree_over.l0_eq (rec : Rec) (n : Nat) : ∀ (m : Nat) (x0 : List PV) (x1 : List PV) (x2 : Int) (x3 : List PV) (x4 : Int) (x5 : Int),loopAt C rec n 29 [1,1,0,1,0] [] m [(3,SV.home (OV.cont .box [FV.val (PV.sl (some 2) x0),FV.val (PV.sl none x1),FV.val (PV.int .i64 x2)])),(9,SV.home (OV.flat (FV.val (PV.sl none x3)))),(10,SV.home (OV.flat (FV.val (PV.int .i64 x4)))),(11,SV.home (OV.flat (FV.val (PV.int .i64 x5))))] = f29_btree_over.l0 rec n m x0 x1 x2 x3 x4 x5
 | 0,x0,x1,x2,x3,x4,x5 => by kernel_rfl
 | m + 1,x0,x1,x2,x3,x4,x5 => by
   have ih : (fun x0 x1 x2 x3 x4 x5 => loopAt C rec n 29 [1,1,0,1,0] [] m [(3,SV.home (OV.cont .box [FV.val (PV.sl (some 2) x0),FV.val (PV.sl none x1),FV.val (PV.int .i64 x2)])),(9,SV.home (OV.flat (FV.val (PV.sl none x3)))),(10,SV.home (OV.flat (FV.val (PV.int .i64 x4)))),(11,SV.home (OV.flat (FV.val (PV.int .i64 x5))))]) = f29_btree_over.l0 rec n m:=funext fun x0 => funext fun x1 => funext fun x2 => funext fun x3 => funext fun x4 => funext fun x5 => f29_btree_over.l0_eq rec n m x0 x1 x2 x3 x4 x5
   exact (show loopAt C rec n 29 [1,1,0,1,0] [] (m + 1) [(3,SV.home (OV.cont .box [FV.val (PV.sl (some 2) x0),FV.val (PV.sl none x1),FV.val (PV.int .i64 x2)])),(9,SV.home (OV.flat (FV.val (PV.sl none x3)))),(10,SV.home (OV.flat (FV.val (PV.int .i64 x4)))),(11,SV.home (OV.flat (FV.val (PV.int .i64 x5))))] = f29_btree_over.l0.step rec n (fun x0 x1 x2 x3 x4 x5 => loopAt C rec n 29 [1,1,0,1,0] [] m [(3,SV.home (OV.cont .box [FV.val (PV.sl (some 2) x0),FV.val (PV.sl none x1),FV.val (PV.int .i64 x2)])),(9,SV.home (OV.flat (FV.val (PV.sl none x3)))),(10,SV.home (OV.flat (FV.val (PV.int .i64 x4)))),(11,SV.home (OV.flat (FV.val (PV.int .i64 x5))))]) x0 x1 x2 x3 x4 x5 from by kernel_rfl).trans (by rw [ih];rfl)
noncomputable def f29_btree_over.pre (rec : Rec) (n : Nat) (l0 : List PV → List PV → Int → List PV → Int → Int → Option (List OV × List OV)) (a0 : List PV) : Option (List OV × List OV) :=
 l0 [] a0 (0 : Int) a0 ((List.length a0 : Nat) : Int) (0 : Int)
noncomputable def f29_btree_over (rec : Rec) (n : Nat) (a0 : List PV) : Option (List OV × List OV):=f29_btree_over.pre rec n (f29_btree_over.l0 rec n n) a0
theorem f29_btree_over_eq (rec : Rec) (n : Nat) (a0 : List PV) : callBody C rec n 29 [OV.flat (FV.val (PV.sl none a0))] = f29_btree_over rec n a0:=by
 have i0 : (fun x0 x1 x2 x3 x4 x5 => loopAt C rec n 29 [1,1,0,1,0] [] n [(3,SV.home (OV.cont .box [FV.val (PV.sl (some 2) x0),FV.val (PV.sl none x1),FV.val (PV.int .i64 x2)])),(9,SV.home (OV.flat (FV.val (PV.sl none x3)))),(10,SV.home (OV.flat (FV.val (PV.int .i64 x4)))),(11,SV.home (OV.flat (FV.val (PV.int .i64 x5))))]) = f29_btree_over.l0 rec n n:=funext fun x0 => funext fun x1 => funext fun x2 => funext fun x3 => funext fun x4 => funext fun x5 => f29_btree_over.l0_eq rec n n x0 x1 x2 x3 x4 x5
 exact (show callBody C rec n 29 [OV.flat (FV.val (PV.sl none a0))] = f29_btree_over.pre rec n (fun x0 x1 x2 x3 x4 x5 => loopAt C rec n 29 [1,1,0,1,0] [] n [(3,SV.home (OV.cont .box [FV.val (PV.sl (some 2) x0),FV.val (PV.sl none x1),FV.val (PV.int .i64 x2)])),(9,SV.home (OV.flat (FV.val (PV.sl none x3)))),(10,SV.home (OV.flat (FV.val (PV.int .i64 x4)))),(11,SV.home (OV.flat (FV.val (PV.int .i64 x5))))]) a0 from by kernel_rfl).trans (by rw [i0];rfl)
noncomputable def f31_btree_leaf (rec : Rec) (n : Nat) (a0 : List PV) : Option (List OV × List OV) :=
 some ([OV.cont .box [FV.val (PV.sl (some 2) a0),FV.val (PV.sl none []),FV.val (PV.int .i64 ((List.length a0 : Nat) : Int))]],[])
theorem f31_btree_leaf_eq (rec : Rec) (n : Nat) (a0 : List PV) : callBody C rec n 31 [OV.flat (FV.val (PV.sl (some 2) a0))] = f31_btree_leaf rec n a0:=by kernel_rfl
noncomputable def f40_api_Entry_byte.l0.step (rec : Rec) (n : Nat) (self_l0 : List PV → List PV → Int → Int → Int → Option (List OV × List OV)) (x0 : List PV) (x1 : List PV) (x2 : Int) (x3 : Int) (x4 : Int) : Option (List OV × List OV) :=
 ifB (decide (x3 < x4))
 (needB (decide ((0 : Int) ≤ IntKind.wrap .i64 (Int.fdiv (IntKind.wrap .u64 (IntKind.wrap .i64 (x3 + x4))) ((2 : Int) ^ (min 1 (IntKind.bits .u64)))))) <|
 needB (decide (IntKind.wrap .i64 (Int.fdiv (IntKind.wrap .u64 (IntKind.wrap .i64 (x3 + x4))) ((2 : Int) ^ (min 1 (IntKind.bits .u64)))) < ((List.length x0 : Nat) : Int))) <|
 needB (hasT Try.prog 33 (nthP x0 (Int.toNat (IntKind.wrap .i64 (Int.fdiv (IntKind.wrap .u64 (IntKind.wrap .i64 (x3 + x4))) ((2 : Int) ^ (min 1 (IntKind.bits .u64)))))))) <|
 callB (rec 41 [OV.flat (FV.val (PV.agg [PV.sl none (PV.toL (List.headD (PV.cells (nthP x0 (Int.toNat (IntKind.wrap .i64 (Int.fdiv (IntKind.wrap .u64 (IntKind.wrap .i64 (x3 + x4))) ((2 : Int) ^ (min 1 (IntKind.bits .u64)))))))) PV.undef)),PV.sl none (PV.toL (List.headD (List.tail (PV.cells (nthP x0 (Int.toNat (IntKind.wrap .i64 (Int.fdiv (IntKind.wrap .u64 (IntKind.wrap .i64 (x3 + x4))) ((2 : Int) ^ (min 1 (IntKind.bits .u64))))))))) PV.undef))])),OV.flat (FV.val (PV.sl none x1))]) fun r1 => needB (okOs Try.prog [3] [] (Prod.fst r1)) <|
 ifB (decide (PV.toI (FV.pv (OV.fv (List.headD (Prod.fst r1) (OV.flat FV.gone)))) < (0 : Int)))
 (self_l0 x0 x1 x2 (IntKind.wrap .i64 (IntKind.wrap .i64 (Int.fdiv (IntKind.wrap .u64 (IntKind.wrap .i64 (x3 + x4))) ((2 : Int) ^ (min 1 (IntKind.bits .u64)))) + (1 : Int))) x4)
 (self_l0 x0 x1 x2 x3 (IntKind.wrap .i64 (Int.fdiv (IntKind.wrap .u64 (IntKind.wrap .i64 (x3 + x4))) ((2 : Int) ^ (min 1 (IntKind.bits .u64)))))))
 (ifB (decide (x3 < x2))
 (needB (decide ((0 : Int) ≤ x3)) <|
 needB (decide (x3 < ((List.length x0 : Nat) : Int))) <|
 needB (hasT Try.prog 33 (nthP x0 (Int.toNat x3))) <|
 callB (rec 41 [OV.flat (FV.val (PV.agg [PV.sl none (PV.toL (List.headD (PV.cells (nthP x0 (Int.toNat x3))) PV.undef)),PV.sl none (PV.toL (List.headD (List.tail (PV.cells (nthP x0 (Int.toNat x3)))) PV.undef))])),OV.flat (FV.val (PV.sl none x1))]) fun r2 => needB (okOs Try.prog [3] [] (Prod.fst r2)) <|
 some ([OV.flat (FV.val (PV.int .i64 x3)),OV.flat (FV.val (PV.bool (PV.toI (FV.pv (OV.fv (List.headD (Prod.fst r2) (OV.flat FV.gone)))) == (0 : Int))))],[]))
 (some ([OV.flat (FV.val (PV.int .i64 x3)),OV.flat (FV.val (PV.bool false))],[])))
noncomputable def f40_api_Entry_byte.l0 (rec : Rec) (n : Nat) : Nat → List PV → List PV → Int → Int → Int → Option (List OV × List OV)
 | 0,_,_,_,_,_ => none
 | m + 1,x0,x1,x2,x3,x4 => f40_api_Entry_byte.l0.step rec n (f40_api_Entry_byte.l0 rec n m) x0 x1 x2 x3 x4
theorem f40_api_Entry_byte.l0_eq (rec : Rec) (n : Nat) : ∀ (m : Nat) (x0 : List PV) (x1 : List PV) (x2 : Int) (x3 : Int) (x4 : Int),loopAt C rec n 40 [1,1,1,0,0] [] m [(0,SV.home (OV.flat (FV.val (PV.sl (some 2) x0)))),(1,SV.home (OV.flat (FV.val (PV.sl none x1)))),(2,SV.home (OV.flat (FV.val (PV.fn (Fn.func 41) [] [])))),(8,SV.home (OV.flat (FV.val (PV.int .i64 x2)))),(9,SV.home (OV.flat (FV.val (PV.int .i64 x3)))),(10,SV.home (OV.flat (FV.val (PV.int .i64 x4))))] = f40_api_Entry_byte.l0 rec n m x0 x1 x2 x3 x4
 | 0,x0,x1,x2,x3,x4 => by kernel_rfl
 | m + 1,x0,x1,x2,x3,x4 => by
   have ih : (fun x0 x1 x2 x3 x4 => loopAt C rec n 40 [1,1,1,0,0] [] m [(0,SV.home (OV.flat (FV.val (PV.sl (some 2) x0)))),(1,SV.home (OV.flat (FV.val (PV.sl none x1)))),(2,SV.home (OV.flat (FV.val (PV.fn (Fn.func 41) [] [])))),(8,SV.home (OV.flat (FV.val (PV.int .i64 x2)))),(9,SV.home (OV.flat (FV.val (PV.int .i64 x3)))),(10,SV.home (OV.flat (FV.val (PV.int .i64 x4))))]) = f40_api_Entry_byte.l0 rec n m:=funext fun x0 => funext fun x1 => funext fun x2 => funext fun x3 => funext fun x4 => f40_api_Entry_byte.l0_eq rec n m x0 x1 x2 x3 x4
   exact (show loopAt C rec n 40 [1,1,1,0,0] [] (m + 1) [(0,SV.home (OV.flat (FV.val (PV.sl (some 2) x0)))),(1,SV.home (OV.flat (FV.val (PV.sl none x1)))),(2,SV.home (OV.flat (FV.val (PV.fn (Fn.func 41) [] [])))),(8,SV.home (OV.flat (FV.val (PV.int .i64 x2)))),(9,SV.home (OV.flat (FV.val (PV.int .i64 x3)))),(10,SV.home (OV.flat (FV.val (PV.int .i64 x4))))] = f40_api_Entry_byte.l0.step rec n (fun x0 x1 x2 x3 x4 => loopAt C rec n 40 [1,1,1,0,0] [] m [(0,SV.home (OV.flat (FV.val (PV.sl (some 2) x0)))),(1,SV.home (OV.flat (FV.val (PV.sl none x1)))),(2,SV.home (OV.flat (FV.val (PV.fn (Fn.func 41) [] [])))),(8,SV.home (OV.flat (FV.val (PV.int .i64 x2)))),(9,SV.home (OV.flat (FV.val (PV.int .i64 x3)))),(10,SV.home (OV.flat (FV.val (PV.int .i64 x4))))]) x0 x1 x2 x3 x4 from by kernel_rfl).trans (by rw [ih];rfl)
noncomputable def f40_api_Entry_byte.pre (rec : Rec) (n : Nat) (l0 : List PV → List PV → Int → Int → Int → Option (List OV × List OV)) (a0 : List PV) (a1 : List PV) : Option (List OV × List OV) :=
 l0 a0 a1 ((List.length a0 : Nat) : Int) (0 : Int) ((List.length a0 : Nat) : Int)
noncomputable def f40_api_Entry_byte (rec : Rec) (n : Nat) (a0 : List PV) (a1 : List PV) : Option (List OV × List OV):=f40_api_Entry_byte.pre rec n (f40_api_Entry_byte.l0 rec n n) a0 a1
theorem f40_api_Entry_byte_eq (rec : Rec) (n : Nat) (a0 : List PV) (a1 : List PV) : callBody C rec n 40 [OV.flat (FV.val (PV.sl (some 2) a0)),OV.flat (FV.val (PV.sl none a1)),OV.flat (FV.val (PV.fn (Fn.func 41) [] []))] = f40_api_Entry_byte rec n a0 a1:=by
 have i0 : (fun x0 x1 x2 x3 x4 => loopAt C rec n 40 [1,1,1,0,0] [] n [(0,SV.home (OV.flat (FV.val (PV.sl (some 2) x0)))),(1,SV.home (OV.flat (FV.val (PV.sl none x1)))),(2,SV.home (OV.flat (FV.val (PV.fn (Fn.func 41) [] [])))),(8,SV.home (OV.flat (FV.val (PV.int .i64 x2)))),(9,SV.home (OV.flat (FV.val (PV.int .i64 x3)))),(10,SV.home (OV.flat (FV.val (PV.int .i64 x4))))]) = f40_api_Entry_byte.l0 rec n n:=funext fun x0 => funext fun x1 => funext fun x2 => funext fun x3 => funext fun x4 => f40_api_Entry_byte.l0_eq rec n n x0 x1 x2 x3 x4
 exact (show callBody C rec n 40 [OV.flat (FV.val (PV.sl (some 2) a0)),OV.flat (FV.val (PV.sl none a1)),OV.flat (FV.val (PV.fn (Fn.func 41) [] []))] = f40_api_Entry_byte.pre rec n (fun x0 x1 x2 x3 x4 => loopAt C rec n 40 [1,1,1,0,0] [] n [(0,SV.home (OV.flat (FV.val (PV.sl (some 2) x0)))),(1,SV.home (OV.flat (FV.val (PV.sl none x1)))),(2,SV.home (OV.flat (FV.val (PV.fn (Fn.func 41) [] [])))),(8,SV.home (OV.flat (FV.val (PV.int .i64 x2)))),(9,SV.home (OV.flat (FV.val (PV.int .i64 x3)))),(10,SV.home (OV.flat (FV.val (PV.int .i64 x4))))]) a0 a1 from by kernel_rfl).trans (by rw [i0];rfl)
noncomputable def f41_btree_page_place_1 (rec : Rec) (n : Nat) (a0 : List PV) (a1 : List PV) (a2 : List PV) : Option (List OV × List OV) :=
 callB (rec 42 [OV.flat (FV.val (PV.sl none a0)),OV.flat (FV.val (PV.sl none a2))]) fun r1 => needB (okOs Try.prog [3] [] (Prod.fst r1)) <|
 some ([OV.flat (FV.val (PV.int .i64 (PV.toI (FV.pv (OV.fv (List.headD (Prod.fst r1) (OV.flat FV.gone)))))))],[])
theorem f41_btree_page_place_1_eq (rec : Rec) (n : Nat) (a0 : List PV) (a1 : List PV) (a2 : List PV) : callBody C rec n 41 [OV.flat (FV.val (PV.agg [PV.sl none a0,PV.sl none a1])),OV.flat (FV.val (PV.sl none a2))] = f41_btree_page_place_1 rec n a0 a1 a2:=by kernel_rfl
noncomputable def f43_btree_page_way.l0.step (rec : Rec) (n : Nat) (self_l0 : PV → List PV → Int → Option (List OV × List OV)) (x0 : PV) (x1 : List PV) (x2 : Int) : Option (List OV × List OV) :=
 needB (isPtrS (PV.ptr (some 3) x0) && hasT Try.prog 63 (PV.deref (PV.ptr (some 3) x0))) <|
 ifB (decide (IntKind.wrap .i64 (x2 + (1 : Int)) < ((List.length (PV.toL (List.headD (List.tail (PV.cells (PV.deref (PV.ptr (some 3) x0)))) PV.undef)) : Nat) : Int)))
 (needB (isPtrS (PV.ptr (some 3) x0) && hasT Try.prog 63 (PV.deref (PV.ptr (some 3) x0))) <|
 needB (decide ((0 : Int) ≤ IntKind.wrap .i64 (x2 + (1 : Int)))) <|
 needB (decide (IntKind.wrap .i64 (x2 + (1 : Int)) < ((List.length (PV.toL (List.headD (List.tail (PV.cells (PV.deref (PV.ptr (some 3) x0)))) PV.undef)) : Nat) : Int))) <|
 needB (hasT Try.prog 55 (nthP (PV.toL (List.headD (List.tail (PV.cells (PV.deref (PV.ptr (some 3) x0)))) PV.undef)) (Int.toNat (IntKind.wrap .i64 (x2 + (1 : Int)))))) <|
 callB (rec 57 [OV.flat (FV.val (PV.ptr (some 3) (PV.deref (nthP (PV.toL (List.headD (List.tail (PV.cells (PV.deref (PV.ptr (some 3) x0)))) PV.undef)) (Int.toNat (IntKind.wrap .i64 (x2 + (1 : Int))))))))]) fun r1 => needB (okOs Try.prog [23] [] (Prod.fst r1)) <|
 callB (rec 42 [OV.flat (FV.val (PV.sl none (PV.toL (FV.pv (OV.fv (List.headD (Prod.fst r1) (OV.flat FV.gone))))))),OV.flat (FV.val (PV.sl none x1))]) fun r2 => needB (okOs Try.prog [3] [] (Prod.fst r2)) <|
 ifB (decide (PV.toI (FV.pv (OV.fv (List.headD (Prod.fst r2) (OV.flat FV.gone)))) ≤ (0 : Int)))
 (self_l0 x0 x1 (IntKind.wrap .i64 (x2 + (1 : Int))))
 (some ([OV.flat (FV.val (PV.int .i64 x2))],[])))
 (some ([OV.flat (FV.val (PV.int .i64 x2))],[]))
noncomputable def f43_btree_page_way.l0 (rec : Rec) (n : Nat) : Nat → PV → List PV → Int → Option (List OV × List OV)
 | 0,_,_,_ => none
 | m + 1,x0,x1,x2 => f43_btree_page_way.l0.step rec n (f43_btree_page_way.l0 rec n m) x0 x1 x2
theorem f43_btree_page_way.l0_eq (rec : Rec) (n : Nat) : ∀ (m : Nat) (x0 : PV) (x1 : List PV) (x2 : Int),loopAt C rec n 43 [1,1,0,0] [] m [(0,SV.home (OV.flat (FV.val (PV.ptr (some 3) x0)))),(1,SV.home (OV.flat (FV.val (PV.sl none x1)))),(5,SV.home (OV.flat (FV.val (PV.int .i64 x2))))] = f43_btree_page_way.l0 rec n m x0 x1 x2
 | 0,x0,x1,x2 => by kernel_rfl
 | m + 1,x0,x1,x2 => by
   have ih : (fun x0 x1 x2 => loopAt C rec n 43 [1,1,0,0] [] m [(0,SV.home (OV.flat (FV.val (PV.ptr (some 3) x0)))),(1,SV.home (OV.flat (FV.val (PV.sl none x1)))),(5,SV.home (OV.flat (FV.val (PV.int .i64 x2))))]) = f43_btree_page_way.l0 rec n m:=funext fun x0 => funext fun x1 => funext fun x2 => f43_btree_page_way.l0_eq rec n m x0 x1 x2
   exact (show loopAt C rec n 43 [1,1,0,0] [] (m + 1) [(0,SV.home (OV.flat (FV.val (PV.ptr (some 3) x0)))),(1,SV.home (OV.flat (FV.val (PV.sl none x1)))),(5,SV.home (OV.flat (FV.val (PV.int .i64 x2))))] = f43_btree_page_way.l0.step rec n (fun x0 x1 x2 => loopAt C rec n 43 [1,1,0,0] [] m [(0,SV.home (OV.flat (FV.val (PV.ptr (some 3) x0)))),(1,SV.home (OV.flat (FV.val (PV.sl none x1)))),(5,SV.home (OV.flat (FV.val (PV.int .i64 x2))))]) x0 x1 x2 from by kernel_rfl).trans (by rw [ih];rfl)
noncomputable def f43_btree_page_way.pre (rec : Rec) (n : Nat) (l0 : PV → List PV → Int → Option (List OV × List OV)) (a0 : PV) (a1 : List PV) : Option (List OV × List OV) :=
 l0 a0 a1 (0 : Int)
noncomputable def f43_btree_page_way (rec : Rec) (n : Nat) (a0 : PV) (a1 : List PV) : Option (List OV × List OV):=f43_btree_page_way.pre rec n (f43_btree_page_way.l0 rec n n) a0 a1
theorem f43_btree_page_way_eq (rec : Rec) (n : Nat) (a0 : PV) (a1 : List PV) : callBody C rec n 43 [OV.flat (FV.val (PV.ptr (some 3) a0)),OV.flat (FV.val (PV.sl none a1))] = f43_btree_page_way rec n a0 a1:=by
 have i0 : (fun x0 x1 x2 => loopAt C rec n 43 [1,1,0,0] [] n [(0,SV.home (OV.flat (FV.val (PV.ptr (some 3) x0)))),(1,SV.home (OV.flat (FV.val (PV.sl none x1)))),(5,SV.home (OV.flat (FV.val (PV.int .i64 x2))))]) = f43_btree_page_way.l0 rec n n:=funext fun x0 => funext fun x1 => funext fun x2 => f43_btree_page_way.l0_eq rec n n x0 x1 x2
 exact (show callBody C rec n 43 [OV.flat (FV.val (PV.ptr (some 3) a0)),OV.flat (FV.val (PV.sl none a1))] = f43_btree_page_way.pre rec n (fun x0 x1 x2 => loopAt C rec n 43 [1,1,0,0] [] n [(0,SV.home (OV.flat (FV.val (PV.ptr (some 3) x0)))),(1,SV.home (OV.flat (FV.val (PV.sl none x1)))),(5,SV.home (OV.flat (FV.val (PV.int .i64 x2))))]) a0 a1 from by kernel_rfl).trans (by rw [i0];rfl)
noncomputable def f46_btree_leaves (rec : Rec) (n : Nat) (a0 : List PV) : Option (List OV × List OV) :=
 ifB (decide (((List.length a0 : Nat) : Int) ≤ (4 : Int)))
 (callB (rec 31 [OV.flat (FV.val (PV.sl (some 2) a0))]) fun r1 => needB (okOs Try.prog [55] [] (Prod.fst r1)) <|
 some ([OV.flat (FV.own none [PV.ptr (some 3) (PV.deref (FV.pv (OV.fv (List.headD (Prod.fst r1) (OV.flat FV.gone)))))] [])],[]))
 (needB (decide ((0 : Int) ≤ IntKind.wrap .i64 (Int.tdiv (IntKind.wrap .i64 (((List.length a0 : Nat) : Int) + (1 : Int))) (2 : Int)))) <|
 needB (decide (IntKind.wrap .i64 (Int.tdiv (IntKind.wrap .i64 (((List.length a0 : Nat) : Int) + (1 : Int))) (2 : Int)) ≤ IntKind.wrap .i64 (Int.tdiv (IntKind.wrap .i64 (((List.length a0 : Nat) : Int) + (1 : Int))) (2 : Int)))) <|
 needB (decide (IntKind.wrap .i64 (Int.tdiv (IntKind.wrap .i64 (((List.length a0 : Nat) : Int) + (1 : Int))) (2 : Int)) ≤ ((List.length a0 : Nat) : Int))) <|
 callB (rec 31 [OV.flat (FV.val (PV.sl (some 2) (List.take (Int.toNat (IntKind.wrap .i64 (Int.tdiv (IntKind.wrap .i64 (((List.length a0 : Nat) : Int) + (1 : Int))) (2 : Int)))) a0)))]) fun r2 => needB (okOs Try.prog [55] [] (Prod.fst r2)) <|
 needB (decide ((0 : Int) ≤ IntKind.wrap .i64 (Int.tdiv (IntKind.wrap .i64 (((List.length a0 : Nat) : Int) + (1 : Int))) (2 : Int)))) <|
 needB (decide (IntKind.wrap .i64 (Int.tdiv (IntKind.wrap .i64 (((List.length a0 : Nat) : Int) + (1 : Int))) (2 : Int)) ≤ ((List.length a0 : Nat) : Int))) <|
 callB (rec 31 [OV.flat (FV.val (PV.sl (some 2) (List.drop (Int.toNat (IntKind.wrap .i64 (Int.tdiv (IntKind.wrap .i64 (((List.length a0 : Nat) : Int) + (1 : Int))) (2 : Int)))) a0)))]) fun r3 => needB (okOs Try.prog [55] [] (Prod.fst r3)) <|
 some ([OV.flat (FV.own none [PV.ptr (some 3) (PV.deref (FV.pv (OV.fv (List.headD (Prod.fst r2) (OV.flat FV.gone))))),PV.ptr (some 3) (PV.deref (FV.pv (OV.fv (List.headD (Prod.fst r3) (OV.flat FV.gone)))))] [])],[]))
theorem f46_btree_leaves_eq (rec : Rec) (n : Nat) (a0 : List PV) : callBody C rec n 46 [OV.flat (FV.val (PV.sl (some 2) a0))] = f46_btree_leaves rec n a0:=by kernel_rfl
noncomputable def f47_btree_pages (rec : Rec) (n : Nat) (a0 : List PV) : Option (List OV × List OV) :=
 ifB (decide (((List.length a0 : Nat) : Int) ≤ (4 : Int)))
 (callB (rec 29 [OV.flat (FV.val (PV.sl none a0))]) fun r1 => needB (okOs Try.prog [55] [] (Prod.fst r1)) <|
 some ([OV.flat (FV.own none [PV.ptr (some 3) (PV.deref (FV.pv (OV.fv (List.headD (Prod.fst r1) (OV.flat FV.gone)))))] [])],[]))
 (needB (decide ((0 : Int) ≤ IntKind.wrap .i64 (Int.tdiv (IntKind.wrap .i64 (((List.length a0 : Nat) : Int) + (1 : Int))) (2 : Int)))) <|
 needB (decide (IntKind.wrap .i64 (Int.tdiv (IntKind.wrap .i64 (((List.length a0 : Nat) : Int) + (1 : Int))) (2 : Int)) ≤ IntKind.wrap .i64 (Int.tdiv (IntKind.wrap .i64 (((List.length a0 : Nat) : Int) + (1 : Int))) (2 : Int)))) <|
 needB (decide (IntKind.wrap .i64 (Int.tdiv (IntKind.wrap .i64 (((List.length a0 : Nat) : Int) + (1 : Int))) (2 : Int)) ≤ ((List.length a0 : Nat) : Int))) <|
 callB (rec 29 [OV.flat (FV.val (PV.sl none (List.take (Int.toNat (IntKind.wrap .i64 (Int.tdiv (IntKind.wrap .i64 (((List.length a0 : Nat) : Int) + (1 : Int))) (2 : Int)))) a0)))]) fun r2 => needB (okOs Try.prog [55] [] (Prod.fst r2)) <|
 needB (decide ((0 : Int) ≤ IntKind.wrap .i64 (Int.tdiv (IntKind.wrap .i64 (((List.length a0 : Nat) : Int) + (1 : Int))) (2 : Int)))) <|
 needB (decide (IntKind.wrap .i64 (Int.tdiv (IntKind.wrap .i64 (((List.length a0 : Nat) : Int) + (1 : Int))) (2 : Int)) ≤ ((List.length a0 : Nat) : Int))) <|
 callB (rec 29 [OV.flat (FV.val (PV.sl none (List.drop (Int.toNat (IntKind.wrap .i64 (Int.tdiv (IntKind.wrap .i64 (((List.length a0 : Nat) : Int) + (1 : Int))) (2 : Int)))) a0)))]) fun r3 => needB (okOs Try.prog [55] [] (Prod.fst r3)) <|
 some ([OV.flat (FV.own none [PV.ptr (some 3) (PV.deref (FV.pv (OV.fv (List.headD (Prod.fst r2) (OV.flat FV.gone))))),PV.ptr (some 3) (PV.deref (FV.pv (OV.fv (List.headD (Prod.fst r3) (OV.flat FV.gone)))))] [])],[]))
theorem f47_btree_pages_eq (rec : Rec) (n : Nat) (a0 : List PV) : callBody C rec n 47 [OV.flat (FV.val (PV.sl none a0))] = f47_btree_pages rec n a0:=by kernel_rfl
noncomputable def f51_btree_page_size (rec : Rec) (n : Nat) (a0 : PV) : Option (List OV × List OV) :=
 needB (isPtrS (PV.ptr (some 3) a0) && hasT Try.prog 63 (PV.deref (PV.ptr (some 3) a0))) <|
 needB (isPtrS (PV.ptr (some 3) a0) && hasT Try.prog 63 (PV.deref (PV.ptr (some 3) a0))) <|
 some ([OV.flat (FV.val (PV.int .i64 (IntKind.wrap .i64 (((List.length (PV.toL (List.headD (PV.cells (PV.deref (PV.ptr (some 3) a0))) PV.undef)) : Nat) : Int) + ((List.length (PV.toL (List.headD (List.tail (PV.cells (PV.deref (PV.ptr (some 3) a0)))) PV.undef)) : Nat) : Int)))))],[])
theorem f51_btree_page_size_eq (rec : Rec) (n : Nat) (a0 : PV) : callBody C rec n 51 [OV.flat (FV.val (PV.ptr (some 3) a0))] = f51_btree_page_size rec n a0:=by kernel_rfl
noncomputable def f52_btree_join (rec : Rec) (n : Nat) (a0 : PV) (a1 : PV) : Option (List OV × List OV) :=
 needB (isPtrS (PV.ptr (some 3) a0) && hasT Try.prog 63 (PV.deref (PV.ptr (some 3) a0))) <|
 ifB (((List.length (PV.toL (List.headD (List.tail (PV.cells (PV.deref (PV.ptr (some 3) a0)))) PV.undef)) : Nat) : Int) == (0 : Int))
 (needB (isPtrS (PV.ptr (some 3) a0) && hasT Try.prog 63 (PV.deref (PV.ptr (some 3) a0))) <|
 needB (isPtrS (PV.ptr (some 3) a1) && hasT Try.prog 63 (PV.deref (PV.ptr (some 3) a1))) <|
 callB (rec 64 [OV.flat (FV.val (PV.sl none [PV.sl (some 2) (PV.toL (List.headD (PV.cells (PV.deref (PV.ptr (some 3) a0))) PV.undef)),PV.sl (some 2) (PV.toL (List.headD (PV.cells (PV.deref (PV.ptr (some 3) a1))) PV.undef))]))]) fun r1 => needB (okOs Try.prog [27] [.o] (Prod.fst r1)) <|
 callB (rec 46 [OV.flat (FV.val (PV.sl (some 2) (FV.xs (OV.fv (List.headD (Prod.fst r1) (OV.flat FV.gone))))))]) fun r2 => needB (okOs Try.prog [61] [.o] (Prod.fst r2)) <|
 some ([OV.flat (FV.own none (FV.xs (OV.fv (List.headD (Prod.fst r2) (OV.flat FV.gone)))) [])],[]))
 (needB (isPtrS (PV.ptr (some 3) a0) && hasT Try.prog 63 (PV.deref (PV.ptr (some 3) a0))) <|
 needB (isPtrS (PV.ptr (some 3) a1) && hasT Try.prog 63 (PV.deref (PV.ptr (some 3) a1))) <|
 callB (rec 65 [OV.flat (FV.val (PV.sl none [PV.sl none (PV.toL (List.headD (List.tail (PV.cells (PV.deref (PV.ptr (some 3) a0)))) PV.undef)),PV.sl none (PV.toL (List.headD (List.tail (PV.cells (PV.deref (PV.ptr (some 3) a1)))) PV.undef))]))]) fun r3 => needB (okOs Try.prog [61] [.o] (Prod.fst r3)) <|
 callB (rec 47 [OV.flat (FV.val (PV.sl none (FV.xs (OV.fv (List.headD (Prod.fst r3) (OV.flat FV.gone))))))]) fun r4 => needB (okOs Try.prog [61] [.o] (Prod.fst r4)) <|
 some ([OV.flat (FV.own none (FV.xs (OV.fv (List.headD (Prod.fst r4) (OV.flat FV.gone)))) [])],[]))
theorem f52_btree_join_eq (rec : Rec) (n : Nat) (a0 : PV) (a1 : PV) : callBody C rec n 52 [OV.flat (FV.val (PV.ptr (some 3) a0)),OV.flat (FV.val (PV.ptr (some 3) a1))] = f52_btree_join rec n a0 a1:=by kernel_rfl
noncomputable def f57_btree_page_least.l0.step (rec : Rec) (n : Nat) (self_l0 : PV → Option (List OV × List OV)) (x0 : PV) : Option (List OV × List OV) :=
 needB (isPtrS (PV.ptr (some 3) x0) && hasT Try.prog 63 (PV.deref (PV.ptr (some 3) x0))) <|
 ifB (decide (((List.length (PV.toL (List.headD (List.tail (PV.cells (PV.deref (PV.ptr (some 3) x0)))) PV.undef)) : Nat) : Int) > (0 : Int)))
 (needB (isPtrS (PV.ptr (some 3) x0) && hasT Try.prog 63 (PV.deref (PV.ptr (some 3) x0))) <|
 needB (decide ((0 : Int) < ((List.length (PV.toL (List.headD (List.tail (PV.cells (PV.deref (PV.ptr (some 3) x0)))) PV.undef)) : Nat) : Int))) <|
 needB (hasT Try.prog 55 (nthP (PV.toL (List.headD (List.tail (PV.cells (PV.deref (PV.ptr (some 3) x0)))) PV.undef)) 0)) <|
 self_l0 (PV.deref (nthP (PV.toL (List.headD (List.tail (PV.cells (PV.deref (PV.ptr (some 3) x0)))) PV.undef)) 0)))
 (needB (isPtrS (PV.ptr (some 3) x0) && hasT Try.prog 63 (PV.deref (PV.ptr (some 3) x0))) <|
 needB (decide ((0 : Int) < ((List.length (PV.toL (List.headD (PV.cells (PV.deref (PV.ptr (some 3) x0))) PV.undef)) : Nat) : Int))) <|
 needB (hasT Try.prog 33 (nthP (PV.toL (List.headD (PV.cells (PV.deref (PV.ptr (some 3) x0))) PV.undef)) 0)) <|
 some ([OV.flat (FV.val (PV.sl none (PV.toL (List.headD (PV.cells (nthP (PV.toL (List.headD (PV.cells (PV.deref (PV.ptr (some 3) x0))) PV.undef)) 0)) PV.undef))))],[]))
noncomputable def f57_btree_page_least.l0 (rec : Rec) (n : Nat) : Nat → PV → Option (List OV × List OV)
 | 0,_ => none
 | m + 1,x0 => f57_btree_page_least.l0.step rec n (f57_btree_page_least.l0 rec n m) x0
theorem f57_btree_page_least.l0_eq (rec : Rec) (n : Nat) : ∀ (m : Nat) (x0 : PV),loopAt C rec n 57 [1,0,0] [] m [(0,SV.home (OV.flat (FV.val (PV.ptr (some 3) x0))))] = f57_btree_page_least.l0 rec n m x0
 | 0,x0 => by kernel_rfl
 | m + 1,x0 => by
   have ih : (fun x0 => loopAt C rec n 57 [1,0,0] [] m [(0,SV.home (OV.flat (FV.val (PV.ptr (some 3) x0))))]) = f57_btree_page_least.l0 rec n m:=funext fun x0 => f57_btree_page_least.l0_eq rec n m x0
   exact (show loopAt C rec n 57 [1,0,0] [] (m + 1) [(0,SV.home (OV.flat (FV.val (PV.ptr (some 3) x0))))] = f57_btree_page_least.l0.step rec n (fun x0 => loopAt C rec n 57 [1,0,0] [] m [(0,SV.home (OV.flat (FV.val (PV.ptr (some 3) x0))))]) x0 from by kernel_rfl).trans (by rw [ih];rfl)
noncomputable def f57_btree_page_least.pre (rec : Rec) (n : Nat) (l0 : PV → Option (List OV × List OV)) (a0 : PV) : Option (List OV × List OV) :=
 l0 a0
noncomputable def f57_btree_page_least (rec : Rec) (n : Nat) (a0 : PV) : Option (List OV × List OV):=f57_btree_page_least.pre rec n (f57_btree_page_least.l0 rec n n) a0
theorem f57_btree_page_least_eq (rec : Rec) (n : Nat) (a0 : PV) : callBody C rec n 57 [OV.flat (FV.val (PV.ptr (some 3) a0))] = f57_btree_page_least rec n a0:=by
 have i0 : (fun x0 => loopAt C rec n 57 [1,0,0] [] n [(0,SV.home (OV.flat (FV.val (PV.ptr (some 3) x0))))]) = f57_btree_page_least.l0 rec n n:=funext fun x0 => f57_btree_page_least.l0_eq rec n n x0
 exact (show callBody C rec n 57 [OV.flat (FV.val (PV.ptr (some 3) a0))] = f57_btree_page_least.pre rec n (fun x0 => loopAt C rec n 57 [1,0,0] [] n [(0,SV.home (OV.flat (FV.val (PV.ptr (some 3) x0))))]) a0 from by kernel_rfl).trans (by rw [i0];rfl)
noncomputable def f64_api_Entry.l1.step (rec : Rec) (n : Nat) (self_l1 : List PV → List PV → Int → Int → Option (List OV × List OV)) (x0 : List PV) (x1 : List PV) (x2 : Int) (x3 : Int) : Option (List OV × List OV) :=
 ifB (decide (x3 < x2))
 (needB (decide ((0 : Int) ≤ x3)) <|
 needB (decide (x3 < ((List.length x1 : Nat) : Int))) <|
 needB (hasT Try.prog 27 (nthP x1 (Int.toNat x3))) <|
 needB (Nat.ble ((List.length x0 + List.length (PV.toL (nthP x1 (Int.toNat x3)))) * 48) 140737488355328) <|
 needB (Nat.ble (List.length x0 + List.length (PV.toL (nthP x1 (Int.toNat x3)))) 9223372036854775807) <|
 self_l1 (x0 ++ (PV.toL (nthP x1 (Int.toNat x3)))) x1 x2 (IntKind.wrap .i64 (x3 + (1 : Int))))
 (some ([OV.flat (FV.own (some 2) x0 [])],[]))
noncomputable def f64_api_Entry.l1 (rec : Rec) (n : Nat) : Nat → List PV → List PV → Int → Int → Option (List OV × List OV)
 | 0,_,_,_,_ => none
 | m + 1,x0,x1,x2,x3 => f64_api_Entry.l1.step rec n (f64_api_Entry.l1 rec n m) x0 x1 x2 x3
theorem f64_api_Entry.l1_eq (rec : Rec) (n : Nat) : ∀ (m : Nat) (x0 : List PV) (x1 : List PV) (x2 : Int) (x3 : Int),loopAt C rec n 64 [1,1,1,1,0,1,0] [] m [(6,SV.home (OV.flat (FV.own (some 2) x0 []))),(25,SV.home (OV.flat (FV.val (PV.sl none x1)))),(26,SV.home (OV.flat (FV.val (PV.int .i64 x2)))),(27,SV.home (OV.flat (FV.val (PV.int .i64 x3))))] = f64_api_Entry.l1 rec n m x0 x1 x2 x3
 | 0,x0,x1,x2,x3 => by kernel_rfl
 | m + 1,x0,x1,x2,x3 => by
   have ih : (fun x0 x1 x2 x3 => loopAt C rec n 64 [1,1,1,1,0,1,0] [] m [(6,SV.home (OV.flat (FV.own (some 2) x0 []))),(25,SV.home (OV.flat (FV.val (PV.sl none x1)))),(26,SV.home (OV.flat (FV.val (PV.int .i64 x2)))),(27,SV.home (OV.flat (FV.val (PV.int .i64 x3))))]) = f64_api_Entry.l1 rec n m:=funext fun x0 => funext fun x1 => funext fun x2 => funext fun x3 => f64_api_Entry.l1_eq rec n m x0 x1 x2 x3
   exact (show loopAt C rec n 64 [1,1,1,1,0,1,0] [] (m + 1) [(6,SV.home (OV.flat (FV.own (some 2) x0 []))),(25,SV.home (OV.flat (FV.val (PV.sl none x1)))),(26,SV.home (OV.flat (FV.val (PV.int .i64 x2)))),(27,SV.home (OV.flat (FV.val (PV.int .i64 x3))))] = f64_api_Entry.l1.step rec n (fun x0 x1 x2 x3 => loopAt C rec n 64 [1,1,1,1,0,1,0] [] m [(6,SV.home (OV.flat (FV.own (some 2) x0 []))),(25,SV.home (OV.flat (FV.val (PV.sl none x1)))),(26,SV.home (OV.flat (FV.val (PV.int .i64 x2)))),(27,SV.home (OV.flat (FV.val (PV.int .i64 x3))))]) x0 x1 x2 x3 from by kernel_rfl).trans (by rw [ih];rfl)
noncomputable def f64_api_Entry.l0.step (rec : Rec) (n : Nat) (l1 : List PV → List PV → Int → Int → Option (List OV × List OV)) (self_l0 : List PV → Int → List PV → Int → Int → Option (List OV × List OV)) (x0 : List PV) (x1 : Int) (x2 : List PV) (x3 : Int) (x4 : Int) : Option (List OV × List OV) :=
 ifB (decide (x4 < x3))
 (needB (decide ((0 : Int) ≤ x4)) <|
 needB (decide (x4 < ((List.length x2 : Nat) : Int))) <|
 needB (hasT Try.prog 27 (nthP x2 (Int.toNat x4))) <|
 ifB (decide (IntKind.wrap .i64 (x1 + ((List.length (PV.toL (nthP x2 (Int.toNat x4))) : Nat) : Int)) < (0 : Int)))
 (none)
 (self_l0 x0 (IntKind.wrap .i64 (x1 + ((List.length (PV.toL (nthP x2 (Int.toNat x4))) : Nat) : Int))) x2 x3 (IntKind.wrap .i64 (x4 + (1 : Int)))))
 (callB (rec 68 [OV.flat (FV.own (some 2) [] []),OV.flat (FV.val (PV.int .i64 x1))]) fun r1 => needB (okOs Try.prog [27] [.o] (Prod.fst r1)) <|
 l1 (FV.xs (OV.fv (List.headD (Prod.fst r1) (OV.flat FV.gone)))) x0 ((List.length x0 : Nat) : Int) (0 : Int))
noncomputable def f64_api_Entry.l0 (rec : Rec) (n : Nat) : Nat → List PV → Int → List PV → Int → Int → Option (List OV × List OV)
 | 0,_,_,_,_,_ => none
 | m + 1,x0,x1,x2,x3,x4 => f64_api_Entry.l0.step rec n (f64_api_Entry.l1 rec n n) (f64_api_Entry.l0 rec n m) x0 x1 x2 x3 x4
theorem f64_api_Entry.l0_eq (rec : Rec) (n : Nat) : ∀ (m : Nat) (x0 : List PV) (x1 : Int) (x2 : List PV) (x3 : Int) (x4 : Int),loopAt C rec n 64 [1,1,0,1,0] [] m [(0,SV.home (OV.flat (FV.val (PV.sl none x0)))),(3,SV.home (OV.flat (FV.val (PV.int .i64 x1)))),(9,SV.home (OV.flat (FV.val (PV.sl none x2)))),(10,SV.home (OV.flat (FV.val (PV.int .i64 x3)))),(11,SV.home (OV.flat (FV.val (PV.int .i64 x4))))] = f64_api_Entry.l0 rec n m x0 x1 x2 x3 x4
 | 0,x0,x1,x2,x3,x4 => by kernel_rfl
 | m + 1,x0,x1,x2,x3,x4 => by
   have ih : (fun x0 x1 x2 x3 x4 => loopAt C rec n 64 [1,1,0,1,0] [] m [(0,SV.home (OV.flat (FV.val (PV.sl none x0)))),(3,SV.home (OV.flat (FV.val (PV.int .i64 x1)))),(9,SV.home (OV.flat (FV.val (PV.sl none x2)))),(10,SV.home (OV.flat (FV.val (PV.int .i64 x3)))),(11,SV.home (OV.flat (FV.val (PV.int .i64 x4))))]) = f64_api_Entry.l0 rec n m:=funext fun x0 => funext fun x1 => funext fun x2 => funext fun x3 => funext fun x4 => f64_api_Entry.l0_eq rec n m x0 x1 x2 x3 x4
   have i0 : (fun x0 x1 x2 x3 => loopAt C rec n 64 [1,1,1,1,0,1,0] [] n [(6,SV.home (OV.flat (FV.own (some 2) x0 []))),(25,SV.home (OV.flat (FV.val (PV.sl none x1)))),(26,SV.home (OV.flat (FV.val (PV.int .i64 x2)))),(27,SV.home (OV.flat (FV.val (PV.int .i64 x3))))]) = f64_api_Entry.l1 rec n n:=funext fun x0 => funext fun x1 => funext fun x2 => funext fun x3 => f64_api_Entry.l1_eq rec n n x0 x1 x2 x3
   exact (show loopAt C rec n 64 [1,1,0,1,0] [] (m + 1) [(0,SV.home (OV.flat (FV.val (PV.sl none x0)))),(3,SV.home (OV.flat (FV.val (PV.int .i64 x1)))),(9,SV.home (OV.flat (FV.val (PV.sl none x2)))),(10,SV.home (OV.flat (FV.val (PV.int .i64 x3)))),(11,SV.home (OV.flat (FV.val (PV.int .i64 x4))))] = f64_api_Entry.l0.step rec n (fun x0 x1 x2 x3 => loopAt C rec n 64 [1,1,1,1,0,1,0] [] n [(6,SV.home (OV.flat (FV.own (some 2) x0 []))),(25,SV.home (OV.flat (FV.val (PV.sl none x1)))),(26,SV.home (OV.flat (FV.val (PV.int .i64 x2)))),(27,SV.home (OV.flat (FV.val (PV.int .i64 x3))))]) (fun x0 x1 x2 x3 x4 => loopAt C rec n 64 [1,1,0,1,0] [] m [(0,SV.home (OV.flat (FV.val (PV.sl none x0)))),(3,SV.home (OV.flat (FV.val (PV.int .i64 x1)))),(9,SV.home (OV.flat (FV.val (PV.sl none x2)))),(10,SV.home (OV.flat (FV.val (PV.int .i64 x3)))),(11,SV.home (OV.flat (FV.val (PV.int .i64 x4))))]) x0 x1 x2 x3 x4 from by kernel_rfl).trans (by rw [i0,ih];rfl)
noncomputable def f64_api_Entry.pre (rec : Rec) (n : Nat) (l0 : List PV → Int → List PV → Int → Int → Option (List OV × List OV)) (a0 : List PV) : Option (List OV × List OV) :=
 l0 a0 (0 : Int) a0 ((List.length a0 : Nat) : Int) (0 : Int)
noncomputable def f64_api_Entry (rec : Rec) (n : Nat) (a0 : List PV) : Option (List OV × List OV):=f64_api_Entry.pre rec n (f64_api_Entry.l0 rec n n) a0
theorem f64_api_Entry_eq (rec : Rec) (n : Nat) (a0 : List PV) : callBody C rec n 64 [OV.flat (FV.val (PV.sl none a0))] = f64_api_Entry rec n a0:=by
 have i0 : (fun x0 x1 x2 x3 x4 => loopAt C rec n 64 [1,1,0,1,0] [] n [(0,SV.home (OV.flat (FV.val (PV.sl none x0)))),(3,SV.home (OV.flat (FV.val (PV.int .i64 x1)))),(9,SV.home (OV.flat (FV.val (PV.sl none x2)))),(10,SV.home (OV.flat (FV.val (PV.int .i64 x3)))),(11,SV.home (OV.flat (FV.val (PV.int .i64 x4))))]) = f64_api_Entry.l0 rec n n:=funext fun x0 => funext fun x1 => funext fun x2 => funext fun x3 => funext fun x4 => f64_api_Entry.l0_eq rec n n x0 x1 x2 x3 x4
 exact (show callBody C rec n 64 [OV.flat (FV.val (PV.sl none a0))] = f64_api_Entry.pre rec n (fun x0 x1 x2 x3 x4 => loopAt C rec n 64 [1,1,0,1,0] [] n [(0,SV.home (OV.flat (FV.val (PV.sl none x0)))),(3,SV.home (OV.flat (FV.val (PV.int .i64 x1)))),(9,SV.home (OV.flat (FV.val (PV.sl none x2)))),(10,SV.home (OV.flat (FV.val (PV.int .i64 x3)))),(11,SV.home (OV.flat (FV.val (PV.int .i64 x4))))]) a0 from by kernel_rfl).trans (by rw [i0];rfl)
noncomputable def f65_btree_page.l1.step (rec : Rec) (n : Nat) (self_l1 : List PV → List PV → Int → Int → Option (List OV × List OV)) (x0 : List PV) (x1 : List PV) (x2 : Int) (x3 : Int) : Option (List OV × List OV) :=
 ifB (decide (x3 < x2))
 (needB (decide ((0 : Int) ≤ x3)) <|
 needB (decide (x3 < ((List.length x1 : Nat) : Int))) <|
 needB (hasT Try.prog 61 (nthP x1 (Int.toNat x3))) <|
 needB (Nat.ble ((List.length x0 + List.length (PV.toL (nthP x1 (Int.toNat x3)))) * 8) 140737488355328) <|
 needB (Nat.ble (List.length x0 + List.length (PV.toL (nthP x1 (Int.toNat x3)))) 9223372036854775807) <|
 self_l1 (x0 ++ (PV.toL (nthP x1 (Int.toNat x3)))) x1 x2 (IntKind.wrap .i64 (x3 + (1 : Int))))
 (some ([OV.flat (FV.own none x0 [])],[]))
noncomputable def f65_btree_page.l1 (rec : Rec) (n : Nat) : Nat → List PV → List PV → Int → Int → Option (List OV × List OV)
 | 0,_,_,_,_ => none
 | m + 1,x0,x1,x2,x3 => f65_btree_page.l1.step rec n (f65_btree_page.l1 rec n m) x0 x1 x2 x3
theorem f65_btree_page.l1_eq (rec : Rec) (n : Nat) : ∀ (m : Nat) (x0 : List PV) (x1 : List PV) (x2 : Int) (x3 : Int),loopAt C rec n 65 [1,1,1,1,0,1,0] [] m [(6,SV.home (OV.flat (FV.own none x0 []))),(25,SV.home (OV.flat (FV.val (PV.sl none x1)))),(26,SV.home (OV.flat (FV.val (PV.int .i64 x2)))),(27,SV.home (OV.flat (FV.val (PV.int .i64 x3))))] = f65_btree_page.l1 rec n m x0 x1 x2 x3
 | 0,x0,x1,x2,x3 => by kernel_rfl
 | m + 1,x0,x1,x2,x3 => by
   have ih : (fun x0 x1 x2 x3 => loopAt C rec n 65 [1,1,1,1,0,1,0] [] m [(6,SV.home (OV.flat (FV.own none x0 []))),(25,SV.home (OV.flat (FV.val (PV.sl none x1)))),(26,SV.home (OV.flat (FV.val (PV.int .i64 x2)))),(27,SV.home (OV.flat (FV.val (PV.int .i64 x3))))]) = f65_btree_page.l1 rec n m:=funext fun x0 => funext fun x1 => funext fun x2 => funext fun x3 => f65_btree_page.l1_eq rec n m x0 x1 x2 x3
   exact (show loopAt C rec n 65 [1,1,1,1,0,1,0] [] (m + 1) [(6,SV.home (OV.flat (FV.own none x0 []))),(25,SV.home (OV.flat (FV.val (PV.sl none x1)))),(26,SV.home (OV.flat (FV.val (PV.int .i64 x2)))),(27,SV.home (OV.flat (FV.val (PV.int .i64 x3))))] = f65_btree_page.l1.step rec n (fun x0 x1 x2 x3 => loopAt C rec n 65 [1,1,1,1,0,1,0] [] m [(6,SV.home (OV.flat (FV.own none x0 []))),(25,SV.home (OV.flat (FV.val (PV.sl none x1)))),(26,SV.home (OV.flat (FV.val (PV.int .i64 x2)))),(27,SV.home (OV.flat (FV.val (PV.int .i64 x3))))]) x0 x1 x2 x3 from by kernel_rfl).trans (by rw [ih];rfl)
noncomputable def f65_btree_page.l0.step (rec : Rec) (n : Nat) (l1 : List PV → List PV → Int → Int → Option (List OV × List OV)) (self_l0 : List PV → Int → List PV → Int → Int → Option (List OV × List OV)) (x0 : List PV) (x1 : Int) (x2 : List PV) (x3 : Int) (x4 : Int) : Option (List OV × List OV) :=
 ifB (decide (x4 < x3))
 (needB (decide ((0 : Int) ≤ x4)) <|
 needB (decide (x4 < ((List.length x2 : Nat) : Int))) <|
 needB (hasT Try.prog 61 (nthP x2 (Int.toNat x4))) <|
 ifB (decide (IntKind.wrap .i64 (x1 + ((List.length (PV.toL (nthP x2 (Int.toNat x4))) : Nat) : Int)) < (0 : Int)))
 (none)
 (self_l0 x0 (IntKind.wrap .i64 (x1 + ((List.length (PV.toL (nthP x2 (Int.toNat x4))) : Nat) : Int))) x2 x3 (IntKind.wrap .i64 (x4 + (1 : Int)))))
 (callB (rec 69 [OV.flat (FV.own none [] []),OV.flat (FV.val (PV.int .i64 x1))]) fun r1 => needB (okOs Try.prog [61] [.o] (Prod.fst r1)) <|
 l1 (FV.xs (OV.fv (List.headD (Prod.fst r1) (OV.flat FV.gone)))) x0 ((List.length x0 : Nat) : Int) (0 : Int))
noncomputable def f65_btree_page.l0 (rec : Rec) (n : Nat) : Nat → List PV → Int → List PV → Int → Int → Option (List OV × List OV)
 | 0,_,_,_,_,_ => none
 | m + 1,x0,x1,x2,x3,x4 => f65_btree_page.l0.step rec n (f65_btree_page.l1 rec n n) (f65_btree_page.l0 rec n m) x0 x1 x2 x3 x4
theorem f65_btree_page.l0_eq (rec : Rec) (n : Nat) : ∀ (m : Nat) (x0 : List PV) (x1 : Int) (x2 : List PV) (x3 : Int) (x4 : Int),loopAt C rec n 65 [1,1,0,1,0] [] m [(0,SV.home (OV.flat (FV.val (PV.sl none x0)))),(3,SV.home (OV.flat (FV.val (PV.int .i64 x1)))),(9,SV.home (OV.flat (FV.val (PV.sl none x2)))),(10,SV.home (OV.flat (FV.val (PV.int .i64 x3)))),(11,SV.home (OV.flat (FV.val (PV.int .i64 x4))))] = f65_btree_page.l0 rec n m x0 x1 x2 x3 x4
 | 0,x0,x1,x2,x3,x4 => by kernel_rfl
 | m + 1,x0,x1,x2,x3,x4 => by
   have ih : (fun x0 x1 x2 x3 x4 => loopAt C rec n 65 [1,1,0,1,0] [] m [(0,SV.home (OV.flat (FV.val (PV.sl none x0)))),(3,SV.home (OV.flat (FV.val (PV.int .i64 x1)))),(9,SV.home (OV.flat (FV.val (PV.sl none x2)))),(10,SV.home (OV.flat (FV.val (PV.int .i64 x3)))),(11,SV.home (OV.flat (FV.val (PV.int .i64 x4))))]) = f65_btree_page.l0 rec n m:=funext fun x0 => funext fun x1 => funext fun x2 => funext fun x3 => funext fun x4 => f65_btree_page.l0_eq rec n m x0 x1 x2 x3 x4
   have i0 : (fun x0 x1 x2 x3 => loopAt C rec n 65 [1,1,1,1,0,1,0] [] n [(6,SV.home (OV.flat (FV.own none x0 []))),(25,SV.home (OV.flat (FV.val (PV.sl none x1)))),(26,SV.home (OV.flat (FV.val (PV.int .i64 x2)))),(27,SV.home (OV.flat (FV.val (PV.int .i64 x3))))]) = f65_btree_page.l1 rec n n:=funext fun x0 => funext fun x1 => funext fun x2 => funext fun x3 => f65_btree_page.l1_eq rec n n x0 x1 x2 x3
   exact (show loopAt C rec n 65 [1,1,0,1,0] [] (m + 1) [(0,SV.home (OV.flat (FV.val (PV.sl none x0)))),(3,SV.home (OV.flat (FV.val (PV.int .i64 x1)))),(9,SV.home (OV.flat (FV.val (PV.sl none x2)))),(10,SV.home (OV.flat (FV.val (PV.int .i64 x3)))),(11,SV.home (OV.flat (FV.val (PV.int .i64 x4))))] = f65_btree_page.l0.step rec n (fun x0 x1 x2 x3 => loopAt C rec n 65 [1,1,1,1,0,1,0] [] n [(6,SV.home (OV.flat (FV.own none x0 []))),(25,SV.home (OV.flat (FV.val (PV.sl none x1)))),(26,SV.home (OV.flat (FV.val (PV.int .i64 x2)))),(27,SV.home (OV.flat (FV.val (PV.int .i64 x3))))]) (fun x0 x1 x2 x3 x4 => loopAt C rec n 65 [1,1,0,1,0] [] m [(0,SV.home (OV.flat (FV.val (PV.sl none x0)))),(3,SV.home (OV.flat (FV.val (PV.int .i64 x1)))),(9,SV.home (OV.flat (FV.val (PV.sl none x2)))),(10,SV.home (OV.flat (FV.val (PV.int .i64 x3)))),(11,SV.home (OV.flat (FV.val (PV.int .i64 x4))))]) x0 x1 x2 x3 x4 from by kernel_rfl).trans (by rw [i0,ih];rfl)
noncomputable def f65_btree_page.pre (rec : Rec) (n : Nat) (l0 : List PV → Int → List PV → Int → Int → Option (List OV × List OV)) (a0 : List PV) : Option (List OV × List OV) :=
 l0 a0 (0 : Int) a0 ((List.length a0 : Nat) : Int) (0 : Int)
noncomputable def f65_btree_page (rec : Rec) (n : Nat) (a0 : List PV) : Option (List OV × List OV):=f65_btree_page.pre rec n (f65_btree_page.l0 rec n n) a0
theorem f65_btree_page_eq (rec : Rec) (n : Nat) (a0 : List PV) : callBody C rec n 65 [OV.flat (FV.val (PV.sl none a0))] = f65_btree_page rec n a0:=by
 have i0 : (fun x0 x1 x2 x3 x4 => loopAt C rec n 65 [1,1,0,1,0] [] n [(0,SV.home (OV.flat (FV.val (PV.sl none x0)))),(3,SV.home (OV.flat (FV.val (PV.int .i64 x1)))),(9,SV.home (OV.flat (FV.val (PV.sl none x2)))),(10,SV.home (OV.flat (FV.val (PV.int .i64 x3)))),(11,SV.home (OV.flat (FV.val (PV.int .i64 x4))))]) = f65_btree_page.l0 rec n n:=funext fun x0 => funext fun x1 => funext fun x2 => funext fun x3 => funext fun x4 => f65_btree_page.l0_eq rec n n x0 x1 x2 x3 x4
 exact (show callBody C rec n 65 [OV.flat (FV.val (PV.sl none a0))] = f65_btree_page.pre rec n (fun x0 x1 x2 x3 x4 => loopAt C rec n 65 [1,1,0,1,0] [] n [(0,SV.home (OV.flat (FV.val (PV.sl none x0)))),(3,SV.home (OV.flat (FV.val (PV.int .i64 x1)))),(9,SV.home (OV.flat (FV.val (PV.sl none x2)))),(10,SV.home (OV.flat (FV.val (PV.int .i64 x3)))),(11,SV.home (OV.flat (FV.val (PV.int .i64 x4))))]) a0 from by kernel_rfl).trans (by rw [i0];rfl)
end Go.Proofs.Ytnieankaikhmnaa

