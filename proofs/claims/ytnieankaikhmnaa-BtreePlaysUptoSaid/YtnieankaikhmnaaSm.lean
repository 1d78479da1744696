/- What the functions answer, and the laws. -/
import Derived.Test.YtnieankaikhmnaaP
import Derived.KernelRfl

set_option linter.unusedVariables false

set_option linter.unusedSimpArgs false

set_option linter.unusedSectionVars false

set_option linter.unusedVariables false
set_option linter.unusedSimpArgs false
set_option maxRecDepth 100000
namespace Go.Proofs.Ytnieankaikhmnaa.Sm
open Go Go.Ev Go.T14
noncomputable def prim : Nat → Option (List OV → Option (List OV × List OV))
 | 27 => some primClone
 | 42 => some primBytesCompare
 | _ => none
noncomputable def C : Ctx:={ P:=Try.prog,mode:=mode,res:=res,live:=live,prim:=prim,frz:=frz }
noncomputable def f24_btree_page_place (rec : Rec) (n : Nat) (a0 : PV) (a1 : List PV) : Option (List OV × List OV) :=
 needB (isPtrS (PV.ptr (some 3) a0) && hasT Try.prog 63 (PV.deref (PV.ptr (some 3) a0))) <|
 callB (rec 40 [OV.flat (FV.val (PV.sl (some 2) (PV.toL (List.headD (PV.cells (PV.deref (PV.ptr (some 3) a0))) PV.undef)))),OV.flat (FV.val (PV.sl none a1)),OV.flat (FV.val (PV.fn (Fn.func 41) [] []))]) fun r1 => needB (okOs Try.prog [3,4] [] (Prod.fst r1)) <|
 some ([OV.flat (FV.val (PV.int .i64 (PV.toI (FV.pv (OV.fv (List.headD (Prod.fst r1) (OV.flat FV.gone))))))),OV.flat (FV.val (PV.bool (PV.toB (FV.pv (OV.fv (List.headD (List.tail (Prod.fst r1)) (OV.flat FV.gone)))))))],[])
theorem f24_btree_page_place_eq (rec : Rec) (n : Nat) (a0 : PV) (a1 : List PV) : callBody C rec n 24 [OV.flat (FV.val (PV.ptr (some 3) a0)),OV.flat (FV.val (PV.sl none a1))] = f24_btree_page_place rec n a0 a1:=by kernel_rfl
noncomputable def f25_btree_copied.l0.step (rec : Rec) (n : Nat) (self_l0 : List PV → List PV → Int → Int → Option (List OV × List OV)) (x0 : List PV) (x1 : List PV) (x2 : Int) (x3 : Int) : Option (List OV × List OV) :=
 ifB (decide (x3 < x2))
 (needB (decide ((0 : Int) ≤ x3)) <|
 needB (decide (x3 < ((List.length x1 : Nat) : Int))) <|
 needB (hasT Try.prog 33 (nthP x1 (Int.toNat x3))) <|
 callB (rec 27 [OV.flat (FV.val (PV.sl none (PV.toL (List.headD (PV.cells (nthP x1 (Int.toNat x3))) PV.undef))))]) fun r1 => needB (okOs Try.prog [23] [.o] (Prod.fst r1)) <|
 callB (rec 27 [OV.flat (FV.val (PV.sl none (PV.toL (List.headD (List.tail (PV.cells (nthP x1 (Int.toNat x3)))) PV.undef))))]) fun r2 => needB (okOs Try.prog [23] [.o] (Prod.fst r2)) <|
 needB (Nat.ble ((List.length x0 + List.length [PV.agg [PV.sl none (FV.xs (OV.fv (List.headD (Prod.fst r1) (OV.flat FV.gone)))),PV.sl none (FV.xs (OV.fv (List.headD (Prod.fst r2) (OV.flat FV.gone))))]]) * 48) 140737488355328) <|
 needB (Nat.ble (List.length x0 + List.length [PV.agg [PV.sl none (FV.xs (OV.fv (List.headD (Prod.fst r1) (OV.flat FV.gone)))),PV.sl none (FV.xs (OV.fv (List.headD (Prod.fst r2) (OV.flat FV.gone))))]]) 9223372036854775807) <|
 self_l0 (x0 ++ [PV.agg [PV.sl none (FV.xs (OV.fv (List.headD (Prod.fst r1) (OV.flat FV.gone)))),PV.sl none (FV.xs (OV.fv (List.headD (Prod.fst r2) (OV.flat FV.gone))))]]) x1 x2 (IntKind.wrap .i64 (x3 + (1 : Int))))
 (some ([OV.flat (FV.own (some 2) x0 [])],[]))
noncomputable def f25_btree_copied.l0 (rec : Rec) (n : Nat) : Nat → List PV → List PV → Int → Int → Option (List OV × List OV)
 | 0,_,_,_,_ => none
 | m + 1,x0,x1,x2,x3 => f25_btree_copied.l0.step rec n (f25_btree_copied.l0 rec n m) x0 x1 x2 x3
theorem f25_btree_copied.l0_eq (rec : Rec) (n : Nat) : ∀ (m : Nat) (x0 : List PV) (x1 : List PV) (x2 : Int) (x3 : Int),loopAt C rec n 25 [1,1,0,1,0] [] m [(3,SV.home (OV.flat (FV.own (some 2) x0 []))),(6,SV.home (OV.flat (FV.val (PV.sl (some 2) x1)))),(7,SV.home (OV.flat (FV.val (PV.int .i64 x2)))),(8,SV.home (OV.flat (FV.val (PV.int .i64 x3))))] = f25_btree_copied.l0 rec n m x0 x1 x2 x3
 | 0,x0,x1,x2,x3 => by kernel_rfl
 | m + 1,x0,x1,x2,x3 => by
   have ih : (fun x0 x1 x2 x3 => loopAt C rec n 25 [1,1,0,1,0] [] m [(3,SV.home (OV.flat (FV.own (some 2) x0 []))),(6,SV.home (OV.flat (FV.val (PV.sl (some 2) x1)))),(7,SV.home (OV.flat (FV.val (PV.int .i64 x2)))),(8,SV.home (OV.flat (FV.val (PV.int .i64 x3))))]) = f25_btree_copied.l0 rec n m:=funext fun x0 => funext fun x1 => funext fun x2 => funext fun x3 => f25_btree_copied.l0_eq rec n m x0 x1 x2 x3
   exact (show loopAt C rec n 25 [1,1,0,1,0] [] (m + 1) [(3,SV.home (OV.flat (FV.own (some 2) x0 []))),(6,SV.home (OV.flat (FV.val (PV.sl (some 2) x1)))),(7,SV.home (OV.flat (FV.val (PV.int .i64 x2)))),(8,SV.home (OV.flat (FV.val (PV.int .i64 x3))))] = f25_btree_copied.l0.step rec n (fun x0 x1 x2 x3 => loopAt C rec n 25 [1,1,0,1,0] [] m [(3,SV.home (OV.flat (FV.own (some 2) x0 []))),(6,SV.home (OV.flat (FV.val (PV.sl (some 2) x1)))),(7,SV.home (OV.flat (FV.val (PV.int .i64 x2)))),(8,SV.home (OV.flat (FV.val (PV.int .i64 x3))))]) x0 x1 x2 x3 from by kernel_rfl).trans (by rw [ih];rfl)
noncomputable def f25_btree_copied.pre (rec : Rec) (n : Nat) (l0 : List PV → List PV → Int → Int → Option (List OV × List OV)) (a0 : List PV) : Option (List OV × List OV) :=
 l0 [] a0 ((List.length a0 : Nat) : Int) (0 : Int)
noncomputable def f25_btree_copied (rec : Rec) (n : Nat) (a0 : List PV) : Option (List OV × List OV):=f25_btree_copied.pre rec n (f25_btree_copied.l0 rec n n) a0
theorem f25_btree_copied_eq (rec : Rec) (n : Nat) (a0 : List PV) : callBody C rec n 25 [OV.flat (FV.val (PV.sl (some 2) a0))] = f25_btree_copied rec n a0:=by
 have i0 : (fun x0 x1 x2 x3 => loopAt C rec n 25 [1,1,0,1,0] [] n [(3,SV.home (OV.flat (FV.own (some 2) x0 []))),(6,SV.home (OV.flat (FV.val (PV.sl (some 2) x1)))),(7,SV.home (OV.flat (FV.val (PV.int .i64 x2)))),(8,SV.home (OV.flat (FV.val (PV.int .i64 x3))))]) = f25_btree_copied.l0 rec n n:=funext fun x0 => funext fun x1 => funext fun x2 => funext fun x3 => f25_btree_copied.l0_eq rec n n x0 x1 x2 x3
 exact (show callBody C rec n 25 [OV.flat (FV.val (PV.sl (some 2) a0))] = f25_btree_copied.pre rec n (fun x0 x1 x2 x3 => loopAt C rec n 25 [1,1,0,1,0] [] n [(3,SV.home (OV.flat (FV.own (some 2) x0 []))),(6,SV.home (OV.flat (FV.val (PV.sl (some 2) x1)))),(7,SV.home (OV.flat (FV.val (PV.int .i64 x2)))),(8,SV.home (OV.flat (FV.val (PV.int .i64 x3))))]) a0 from by kernel_rfl).trans (by rw [i0];rfl)
noncomputable def f40_api_Entry_byte.l0.step (rec : Rec) (n : Nat) (self_l0 : List PV → List PV → Int → Int → Int → Option (List OV × List OV)) (x0 : List PV) (x1 : List PV) (x2 : Int) (x3 : Int) (x4 : Int) : Option (List OV × List OV) :=
 ifB (decide (x3 < x4))
 (needB (decide ((0 : Int) ≤ IntKind.wrap .i64 (Int.fdiv (IntKind.wrap .u64 (IntKind.wrap .i64 (x3 + x4))) ((2 : Int) ^ (min 1 (IntKind.bits .u64)))))) <|
 needB (decide (IntKind.wrap .i64 (Int.fdiv (IntKind.wrap .u64 (IntKind.wrap .i64 (x3 + x4))) ((2 : Int) ^ (min 1 (IntKind.bits .u64)))) < ((List.length x0 : Nat) : Int))) <|
 needB (hasT Try.prog 33 (nthP x0 (Int.toNat (IntKind.wrap .i64 (Int.fdiv (IntKind.wrap .u64 (IntKind.wrap .i64 (x3 + x4))) ((2 : Int) ^ (min 1 (IntKind.bits .u64)))))))) <|
 callB (rec 41 [OV.flat (FV.val (PV.agg [PV.sl none (PV.toL (List.headD (PV.cells (nthP x0 (Int.toNat (IntKind.wrap .i64 (Int.fdiv (IntKind.wrap .u64 (IntKind.wrap .i64 (x3 + x4))) ((2 : Int) ^ (min 1 (IntKind.bits .u64)))))))) PV.undef)),PV.sl none (PV.toL (List.headD (List.tail (PV.cells (nthP x0 (Int.toNat (IntKind.wrap .i64 (Int.fdiv (IntKind.wrap .u64 (IntKind.wrap .i64 (x3 + x4))) ((2 : Int) ^ (min 1 (IntKind.bits .u64))))))))) PV.undef))])),OV.flat (FV.val (PV.sl none x1))]) fun r1 => needB (okOs Try.prog [3] [] (Prod.fst r1)) <|
 ifB (decide (PV.toI (FV.pv (OV.fv (List.headD (Prod.fst r1) (OV.flat FV.gone)))) < (0 : Int)))
 (self_l0 x0 x1 x2 (IntKind.wrap .i64 (IntKind.wrap .i64 (Int.fdiv (IntKind.wrap .u64 (IntKind.wrap .i64 (x3 + x4))) ((2 : Int) ^ (min 1 (IntKind.bits .u64)))) + (1 : Int))) x4)
 (self_l0 x0 x1 x2 x3 (IntKind.wrap .i64 (Int.fdiv (IntKind.wrap .u64 (IntKind.wrap .i64 (x3 + x4))) ((2 : Int) ^ (min 1 (IntKind.bits .u64)))))))
 (ifB (decide (x3 < x2))
 (needB (decide ((0 : Int) ≤ x3)) <|
 needB (decide (x3 < ((List.length x0 : Nat) : Int))) <|
 needB (hasT Try.prog 33 (nthP x0 (Int.toNat x3))) <|
 callB (rec 41 [OV.flat (FV.val (PV.agg [PV.sl none (PV.toL (List.headD (PV.cells (nthP x0 (Int.toNat x3))) PV.undef)),PV.sl none (PV.toL (List.headD (List.tail (PV.cells (nthP x0 (Int.toNat x3)))) PV.undef))])),OV.flat (FV.val (PV.sl none x1))]) fun r2 => needB (okOs Try.prog [3] [] (Prod.fst r2)) <|
 some ([OV.flat (FV.val (PV.int .i64 x3)),OV.flat (FV.val (PV.bool (PV.toI (FV.pv (OV.fv (List.headD (Prod.fst r2) (OV.flat FV.gone)))) == (0 : Int))))],[]))
 (some ([OV.flat (FV.val (PV.int .i64 x3)),OV.flat (FV.val (PV.bool false))],[])))
noncomputable def f40_api_Entry_byte.l0 (rec : Rec) (n : Nat) : Nat → List PV → List PV → Int → Int → Int → Option (List OV × List OV)
 | 0,_,_,_,_,_ => none
 | m + 1,x0,x1,x2,x3,x4 => f40_api_Entry_byte.l0.step rec n (f40_api_Entry_byte.l0 rec n m) x0 x1 x2 x3 x4
theorem f40_api_Entry_byte.l0_eq (rec : Rec) (n : Nat) : ∀ (m : Nat) (x0 : List PV) (x1 : List PV) (x2 : Int) (x3 : Int) (x4 : Int),loopAt C rec n 40 [1,1,1,0,0] [] m [(0,SV.home (OV.flat (FV.val (PV.sl (some 2) x0)))),(1,SV.home (OV.flat (FV.val (PV.sl none x1)))),(2,SV.home (OV.flat (FV.val (PV.fn (Fn.func 41) [] [])))),(8,SV.home (OV.flat (FV.val (PV.int .i64 x2)))),(9,SV.home (OV.flat (FV.val (PV.int .i64 x3)))),(10,SV.home (OV.flat (FV.val (PV.int .i64 x4))))] = f40_api_Entry_byte.l0 rec n m x0 x1 x2 x3 x4
 | 0,x0,x1,x2,x3,x4 => by kernel_rfl
 | m + 1,x0,x1,x2,x3,x4 => by
   have ih : (fun x0 x1 x2 x3 x4 => loopAt C rec n 40 [1,1,1,0,0] [] m [(0,SV.home (OV.flat (FV.val (PV.sl (some 2) x0)))),(1,SV.home (OV.flat (FV.val (PV.sl none x1)))),(2,SV.home (OV.flat (FV.val (PV.fn (Fn.func 41) [] [])))),(8,SV.home (OV.flat (FV.val (PV.int .i64 x2)))),(9,SV.home (OV.flat (FV.val (PV.int .i64 x3)))),(10,SV.home (OV.flat (FV.val (PV.int .i64 x4))))]) = f40_api_Entry_byte.l0 rec n m:=funext fun x0 => funext fun x1 => funext fun x2 => funext fun x3 => funext fun x4 => f40_api_Entry_byte.l0_eq rec n m x0 x1 x2 x3 x4
   exact (show loopAt C rec n 40 [1,1,1,0,0] [] (m + 1) [(0,SV.home (OV.flat (FV.val (PV.sl (some 2) x0)))),(1,SV.home (OV.flat (FV.val (PV.sl none x1)))),(2,SV.home (OV.flat (FV.val (PV.fn (Fn.func 41) [] [])))),(8,SV.home (OV.flat (FV.val (PV.int .i64 x2)))),(9,SV.home (OV.flat (FV.val (PV.int .i64 x3)))),(10,SV.home (OV.flat (FV.val (PV.int .i64 x4))))] = f40_api_Entry_byte.l0.step rec n (fun x0 x1 x2 x3 x4 => loopAt C rec n 40 [1,1,1,0,0] [] m [(0,SV.home (OV.flat (FV.val (PV.sl (some 2) x0)))),(1,SV.home (OV.flat (FV.val (PV.sl none x1)))),(2,SV.home (OV.flat (FV.val (PV.fn (Fn.func 41) [] [])))),(8,SV.home (OV.flat (FV.val (PV.int .i64 x2)))),(9,SV.home (OV.flat (FV.val (PV.int .i64 x3)))),(10,SV.home (OV.flat (FV.val (PV.int .i64 x4))))]) x0 x1 x2 x3 x4 from by kernel_rfl).trans (by rw [ih];rfl)
noncomputable def f40_api_Entry_byte.pre (rec : Rec) (n : Nat) (l0 : List PV → List PV → Int → Int → Int → Option (List OV × List OV)) (a0 : List PV) (a1 : List PV) : Option (List OV × List OV) :=
 l0 a0 a1 ((List.length a0 : Nat) : Int) (0 : Int) ((List.length a0 : Nat) : Int)
noncomputable def f40_api_Entry_byte (rec : Rec) (n : Nat) (a0 : List PV) (a1 : List PV) : Option (List OV × List OV):=f40_api_Entry_byte.pre rec n (f40_api_Entry_byte.l0 rec n n) a0 a1
theorem f40_api_Entry_byte_eq (rec : Rec) (n : Nat) (a0 : List PV) (a1 : List PV) : callBody C rec n 40 [OV.flat (FV.val (PV.sl (some 2) a0)),OV.flat (FV.val (PV.sl none a1)),OV.flat (FV.val (PV.fn (Fn.func 41) [] []))] = f40_api_Entry_byte rec n a0 a1:=by
 have i0 : (fun x0 x1 x2 x3 x4 => loopAt C rec n 40 [1,1,1,0,0] [] n [(0,SV.home (OV.flat (FV.val (PV.sl (some 2) x0)))),(1,SV.home (OV.flat (FV.val (PV.sl none x1)))),(2,SV.home (OV.flat (FV.val (PV.fn (Fn.func 41) [] [])))),(8,SV.home (OV.flat (FV.val (PV.int .i64 x2)))),(9,SV.home (OV.flat (FV.val (PV.int .i64 x3)))),(10,SV.home (OV.flat (FV.val (PV.int .i64 x4))))]) = f40_api_Entry_byte.l0 rec n n:=funext fun x0 => funext fun x1 => funext fun x2 => funext fun x3 => funext fun x4 => f40_api_Entry_byte.l0_eq rec n n x0 x1 x2 x3 x4
 exact (show callBody C rec n 40 [OV.flat (FV.val (PV.sl (some 2) a0)),OV.flat (FV.val (PV.sl none a1)),OV.flat (FV.val (PV.fn (Fn.func 41) [] []))] = f40_api_Entry_byte.pre rec n (fun x0 x1 x2 x3 x4 => loopAt C rec n 40 [1,1,1,0,0] [] n [(0,SV.home (OV.flat (FV.val (PV.sl (some 2) x0)))),(1,SV.home (OV.flat (FV.val (PV.sl none x1)))),(2,SV.home (OV.flat (FV.val (PV.fn (Fn.func 41) [] [])))),(8,SV.home (OV.flat (FV.val (PV.int .i64 x2)))),(9,SV.home (OV.flat (FV.val (PV.int .i64 x3)))),(10,SV.home (OV.flat (FV.val (PV.int .i64 x4))))]) a0 a1 from by kernel_rfl).trans (by rw [i0];rfl)
noncomputable def f41_btree_page_place_1 (rec : Rec) (n : Nat) (a0 : List PV) (a1 : List PV) (a2 : List PV) : Option (List OV × List OV) :=
 callB (rec 42 [OV.flat (FV.val (PV.sl none a0)),OV.flat (FV.val (PV.sl none a2))]) fun r1 => needB (okOs Try.prog [3] [] (Prod.fst r1)) <|
 some ([OV.flat (FV.val (PV.int .i64 (PV.toI (FV.pv (OV.fv (List.headD (Prod.fst r1) (OV.flat FV.gone)))))))],[])
theorem f41_btree_page_place_1_eq (rec : Rec) (n : Nat) (a0 : List PV) (a1 : List PV) (a2 : List PV) : callBody C rec n 41 [OV.flat (FV.val (PV.agg [PV.sl none a0,PV.sl none a1])),OV.flat (FV.val (PV.sl none a2))] = f41_btree_page_place_1 rec n a0 a1 a2:=by kernel_rfl
theorem pcall_step {n : Nat} {f : FuncId} {args : List OV} (h : C.prim f = none) (hf : C.frz f = []) : pcall C (n + 1) f args = callBody C (pcall C n) n f args:=by
 show (match C.prim f with
  | some p => p args
  | none => frzM (C.frz f) (callBody C (pcall C n) n f args)) = _
 rw [h,hf]
 exact frzM_nil _
theorem pcall_prim {n : Nat} {f : FuncId} {args : List OV} {p : List OV → Option (List OV × List OV)} (h : C.prim f = some p) : pcall C (n + 1) f args = p args:=by
 show (match C.prim f with
  | some p => p args
  | none => frzM (C.frz f) (callBody C (pcall C n) n f args)) = _
 rw [h]
theorem s42 (n : Nat) (a b : List UInt8) : pcall C (n + 1) 42 [vR a,vR b] = some ([vI (Lib.compareBytes a b)],[]):=by
 rw [pcall_prim (p:=primBytesCompare) (by rfl)]
 unfold primBytesCompare
 simp only [bb_isByte,Bool.and_self,bb_u8]
theorem s27 (n : Nat) (a : List UInt8) (h : a.length ≤ big) : pcall C (n + 1) 27 [vR a] = some ([vO a],[]):=by
 rw [pcall_prim (p:=primClone) (by rfl)]
 unfold primClone
 have : Nat.ble (bb a).length 140737488355328 = true:=by rw [Nat.ble_eq,List.length_map];unfold big at h;omega
 simp only [bb_isByte,this,Bool.and_self]
theorem s41 (n : Nat) (e : Ent) (k : List UInt8) : pcall C (n + 2) 41 [vE e,vR k] = some ([vI (Lib.compareBytes e.k k)],[]):=by
 rw [pcall_step (by rfl) (by rfl),f41_btree_page_place_1_eq]
 unfold f41_btree_page_place_1
 simp only [s42,callB_some,ok3,needB_true,List.headD_cons,fvF,pvF,toI_int]
theorem search (N : Nat) (k : List UInt8) (es : List Ent) (hs : Sorted es) (hl : es.length ≤ 1000000000) : ∀ (m i j : Nat),i ≤ ltc k es → ltc k es ≤ j → j ≤ es.length → j - i < m →
 f40_api_Entry_byte.l0 (pcall C (N + 2)) (N + 2) m (es.map entV) (bb k) (es.length : Int) (i : Int) (j : Int) = some ([vI (ltc k es),vB (has k es)],[])
 | 0,i,j,h1,h2,h3,h4 => by omega
 | m + 1,i,j,h1,h2,h3,h4 => by
   show f40_api_Entry_byte.l0.step _ _ (f40_api_Entry_byte.l0 _ _ m) _ _ _ _ _ = _
   unfold f40_api_Entry_byte.l0.step
   by_cases hij : i < j
   · have c1 : ((i : Int) < (j : Int)):=by omega
     have hh : (i + j) / 2 < es.length:=by omega
     obtain ⟨e,he⟩ : ∃ e,es[(i + j) / 2]? = some e:=⟨_,List.getElem?_eq_getElem hh⟩
     have c2 : (0 : Int) ≤ (((i + j) / 2 : Nat) : Int):=by omega
     have c3 : (((i + j) / 2 : Nat) : Int) < ((es.map entV).length : Int):=by rw [List.length_map];omega
     have w : IntKind.wrap .i64 ((((i + j) / 2 : Nat) : Int) + 1) = (((i + j) / 2 + 1 : Nat) : Int):=wrap_succ (by omega)
     cases hb : Op.bytesLess e.k k with
     | true =>
       have hlt : (i + j) / 2 < ltc k es:=by
        rcases Nat.lt_or_ge ((i + j) / 2) (ltc k es) with h | h
        · exact h
        · rw [ltc_above hs h he] at hb;cases hb
       have c5:=(cmp_lt' e.k k).2 hb
       simp only [half i j hij (by omega),c1,c2,c3,c5,decide_true,ifB_t,needB_true,Int.toNat_natCast,nthP_map entV he,hasT33e,cells_ent,List.headD_cons,List.tail_cons,toL_sl,s41,callB_some,ok3,fvF,pvF,toI_int,w]
       exact search N k es hs hl m _ j (by omega) h2 h3 (by omega)
     | false =>
       have hge : ltc k es ≤ (i + j) / 2:=by
        rcases Nat.lt_or_ge ((i + j) / 2) (ltc k es) with h | h
        · rw [ltc_below hs h he] at hb;cases hb
        · exact h
       have c5 : ¬ Lib.compareBytes e.k k < 0:=fun h => by rw [(cmp_lt' e.k k).1 h] at hb;cases hb
       simp only [half i j hij (by omega),c1,c2,c3,c5,decide_true,decide_false,ifB_t,ifB_f,needB_true,Int.toNat_natCast,nthP_map entV he,hasT33e,cells_ent,List.headD_cons,List.tail_cons,toL_sl,s41,callB_some,ok3,fvF,pvF,toI_int,w]
       exact search N k es hs hl m i _ h1 hge (by omega) (by omega)
   · have c1 : ¬ ((i : Int) < (j : Int)):=by omega
     have ei : i = ltc k es:=by omega
     rw [has_ltc hs]
     rw [← ei]
     by_cases hn : i < es.length
     · obtain ⟨e,he⟩ : ∃ e,es[i]? = some e:=⟨_,List.getElem?_eq_getElem hn⟩
       have c4 : ((i : Int) < (es.length : Int)):=by omega
       have c2 : (0 : Int) ≤ (i : Int):=by omega
       have c3 : (i : Int) < ((es.map entV).length : Int):=by rw [List.length_map];omega
       have hz : (Lib.compareBytes e.k k == (0 : Int)) = (e.k == k):=by
        rw [Bool.eq_iff_iff,beq_iff_eq,beq_iff_eq];exact cmp_eq _ _
       simp only [c1,c2,c3,c4,decide_true,decide_false,ifB_t,ifB_f,needB_true,Int.toNat_natCast,nthP_map entV he,hasT33e,cells_ent,List.headD_cons,List.tail_cons,toL_sl,s41,callB_some,ok3,fvF,pvF,toI_int,he,hz]
     · have c4 : ¬ ((i : Int) < (es.length : Int)):=by omega
       have he : es[i]? = none:=List.getElem?_eq_none (by omega)
       simp only [c1,c4,decide_false,ifB_f,he]
theorem s40 (n : Nat) (k : List UInt8) (es : List Ent) (hs : Sorted es) (hl : es.length ≤ 1000) : pcall C (n + 1010) 40 [vEs es,vR k,.flat (.val (.fn (.func 41) [] []))] = some ([vI (ltc k es),vB (has k es)],[]):=by
 rw [pcall_step (by rfl) (by rfl),f40_api_Entry_byte_eq]
 unfold f40_api_Entry_byte f40_api_Entry_byte.pre
 rw [List.length_map]
 exact search (n + 1007) k es hs (by omega) _ 0 es.length (Nat.zero_le _) (ltc_le k es) (Nat.le_refl _) (by omega)
theorem s24 (n : Nat) (k : List UInt8) (es : List Ent) (bs : List PV) (c : Int) (hs : Sorted es) (hl : es.length ≤ 1000) : pcall C (n + 1011) 24 [vPg (es.map entV) bs c,vR k] = some ([vI (ltc k es),vB (has k es)],[]):=by
 rw [pcall_step (by rfl) (by rfl),f24_btree_page_place_eq]
 unfold f24_btree_page_place
 simp only [isS,deref_ptr,hasT63,Bool.and_self,needB_true,cells_pg,List.headD_cons,List.tail_cons,toL_sl,s40 _ k es hs hl,callB_some,ok34,fvF,pvF,toI_int,toB_bool]
theorem copied_loop (n N : Nat) (es : List Ent) (hl : es.length ≤ 1000) (hs : Short big es) : ∀ (m i : Nat),i ≤ es.length → es.length - i < m →
 f25_btree_copied.l0 (pcall C (n + 1)) N m ((es.take i).map entV) (es.map entV) (es.length : Int) (i : Int) = some ([vEo es],[]):=by
 intro m
 induction m with
 | zero => intro i _ h;omega
 | succ m ih =>
   intro i hi hm
   show f25_btree_copied.l0.step _ _ (f25_btree_copied.l0 _ _ m) _ _ _ _ = _
   unfold f25_btree_copied.l0.step
   by_cases h : i < es.length
   · have he : es[i]? = some es[i]:=List.getElem?_eq_getElem h
     generalize hx : es[i] = e at he
     obtain ⟨hk,hv⟩:=hs e (by rw [← hx];exact List.getElem_mem h)
     have c1 : ((i : Int) < (es.length : Int)) = True:=by simp;omega
     have c2 : ((0 : Int) ≤ (i : Int)) = True:=by simp
     have c3 : ((i : Int) < (((es.map entV).length : Nat) : Int)) = True:=by simp;omega
     have w : IntKind.wrap .i64 ((i : Int) + 1) = ((i + 1 : Nat) : Int):=by rw [IntKind.wrap_i64];omega
     have l1 : ((es.take i).map entV).length = i:=by simp;omega
     have c4 : Nat.ble ((i + 1) * 48) 140737488355328 = true:=by rw [Nat.ble_eq];omega
     have c5 : Nat.ble (i + 1) 9223372036854775807 = true:=by rw [Nat.ble_eq];omega
     have e1 : ((es.take i).map entV) ++ [PV.agg [PV.sl none (bb e.k),PV.sl none (bb e.v)]] = ((es.take (i + 1)).map entV):=by
      rw [List.take_add_one,he,List.map_append];rfl
     have hh : hasT Try.prog 33 (entV e) = true:=hasT33 _ _
     simp only [c1,c2,c3,decide_true,ifB_t,needB_true,Int.toNat_natCast,nthP_map entV he,hh,cells_ent,List.headD_cons,List.tail_cons,toL_sl,s27 n _ hk,s27 n _ hv,callB_some,ok23,fvF,xsO,l1,List.length_singleton,c4,c5,w]
     rw [e1]
     exact ih (i + 1) h (by omega)
   · have c1 : ((i : Int) < (es.length : Int)) = False:=by simp;omega
     have : es.take i = es:=List.take_of_length_le (by omega)
     simp only [c1,decide_false,ifB_f,this]
theorem s25 (n : Nat) (es : List Ent) (hl : es.length ≤ 1000) (hs : Short big es) : pcall C (n + 1011) 25 [vEs es] = some ([vEo es],[]):=by
 rw [pcall_step (by rfl) (by rfl),f25_btree_copied_eq]
 unfold f25_btree_copied f25_btree_copied.pre
 have:=copied_loop (n + 1009) (n + 1010) es hl hs (n + 1010) 0 (Nat.zero_le _) (by omega)
 simpa using this
end Go.Proofs.Ytnieankaikhmnaa.Sm

