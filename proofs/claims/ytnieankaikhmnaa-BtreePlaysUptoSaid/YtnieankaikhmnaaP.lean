/- What the functions answer, and the laws. -/
import Derived.Test.YtnieankaikhmnaaE
import Derived.KernelRfl

set_option linter.unusedVariables false

set_option linter.unusedSimpArgs false

set_option linter.unusedSectionVars false

namespace Go.T14
open Go Go.Ev
def partsE (l : List Ent) : List FV:=l.flatMap fun e => [.own none (e.k.map pvByte) [],.own none (e.v.map pvByte) []]
theorem twos_parts : ∀ (l : List Ent),twos ((partsE l).map FV.frz) = l.map entV
 | [] => rfl
 | e :: l => by
   show PV.agg [.sl none (e.k.map pvByte),.sl none (e.v.map pvByte)] :: twos ((partsE l).map FV.frz) = _
   rw [twos_parts l];rfl
noncomputable def primRangeE (os : List OV) : Option (List OV × List OV):=match primRange os with
 | some ([.flat (.val (.sl _ es))],outs) => some ([.cont .ents (partsE (es.map entOfV))],outs)
 | _ => none
def primSpoil : List OV → Option (List OV × List OV)
 | [.cont .ents cs] => match cs.all isRowB && Nat.ble cs.length 1000000 with
   | true => some ([],[.flat .gone])
   | false => none
 | _ => none
theorem entOf_ents (l : List Ent) : (l.map entV).map entOfV = l:=by
 rw [List.map_map]
 have : (entOfV ∘ entV) = id:=funext fun e => ent_entV e
 rw [this,List.map_id]
theorem primRangeE_eq {d : Nat} {t : Tr d} (s : Sp) (h : Good d t) : primRangeE [.cont .box [.val (enc d t)],.flat (.val (spV s))] = some ([.cont .ents (partsE (rangeL s (flat d t)))],[.cont .box [.val (enc d t)]]):=by
 unfold primRangeE
 rw [primRange_eq s h]
 simp only [entOf_ents]
theorem primRangeE_inv {os : List OV} {rr : List OV × List OV} (h : primRangeE os = some rr) : ∃ (d : Nat) (t : Tr d) (s : Sp),Good d t ∧ os = [.cont .box [.val (enc d t)],.flat (.val (spV s))] ∧
 rr = ([.cont .ents (partsE (rangeL s (flat d t)))],[.cont .box [.val (enc d t)]]):=by
 unfold primRangeE at h
 split at h
 · rename_i sh es outs hp
   obtain ⟨d,t,s,hg,rfl,he⟩:=primRange_inv hp
   cases he
   cases h
   exact ⟨d,t,s,hg,rfl,by rw [entOf_ents]⟩
 · cases h
end Go.T14

open Go Go.Ev
set_option maxRecDepth 100000
namespace Go.Proofs.Ytnieankaikhmnaa.P2
def live : Nat → List (List Nat)
 | 2 => [[]]
 | 3 => [[0,1,2,3],[0,1,2,3],[0,1,2,3,9],[1,2,3,9,10],[],[1,2,3,10],[1,2,10],[1,2,11],[1,2,3,10],[1,2,3,10,12],[1,3,10,12,13],[1,3,10,12,13,14],[1,3,10,12,13,14,15],[1,3,12,13,14,15,16],[1,3,12,13,14,15,16,17],[1,3,12,13,14,15,16,17],[1,3,12,13,14,15,16,17],[1,3,12,13,14,15,16,17],[],[1,3,12,13,14,15,16,17],[12,13,14,15]]
 | 4 => [[0,1,2,3],[0,1,2,3],[0,1,2,3,9],[1,2,3,9,10],[],[1,2,3,10],[1,2,3,10,11,12],[1,2,3,10,11,12,13],[1,2,3,10,11,12,13,15],[1,2,3,10,11,12,13,15,16],[1,2,3,10,11,12,13,15,16,17,18],[],[1,3,10,11,12],[1,3,10,11,12,19],[1,3,10,11,12,19,21],[1,3,10,11,12,19,21,22,23],[1,3,11,12,19,21,22,23,24]]
 | 5 => [[0],[0],[0,3],[0,3,4],[],[0,4],[0,4,5],[0,4,5,6],[0,4,5,6],[0,4,5,6],[0,4,5,6],[0,4,5,6,7],[],[0,4,5,6,7],[0,5,6,7],[0,4,5,6],[0,4,5,6,8],[],[4,5],[4,5,9],[4,5,9,10],[4,5,10]]
 | 6 => [[0,1,2],[0,1,2],[0,1,2,7],[1,2,7,8],[],[1,2,8],[1,2,8,9],[],[1,2,8,9],[1,2,8,9,10],[1,2,8,9,10,11],[1,2,8,9,10,11],[1,2,8,9,10,11],[1,2,8,9,10,11],[1,2,8,9,10,11],[2,8,9,10],[],[2,8,9],[2,8,9,12],[2,8,9,12,13],[2,8,9,12,13],[2,8,9,12,13],[2,8,9,12,13],[2,8,9,12,13],[9,12]]
 | 7 => [[0],[0],[0,3],[0,3,4],[],[0,4],[0,4,5],[0,4,5],[0,4,5],[0,4,5],[0,4,5],[0,4,5],[0,4,5],[0,4,5,6],[0,4,5,6,7],[0,4,5,6,7,8],[0,4,5,6,7,8,9],[0,4,5,6,7,8,9],[0,4,5,6,7,8,9],[],[0,4,5,6,7,8,9],[0,4,5,6,7,8],[0,4,5,6,7,8,10],[0,4,5,6,7,8,10],[0,4,5,6,7,8,10],[],[0,4,5,6,7,8],[],[0,4,5,7,8],[],[4]]
 | 8 => [[],[],[1],[],[1],[1,2],[1,2],[1,2],[],[1],[1,3],[1,3,4,5]]
 | 9 => [[0],[0],[0,3],[0,3,4],[0,3,4],[0,3,4],[0,3,4],[0,3,4],[0,3,4],[3]]
 | 10 => [[0,1,2,6,7,8,9,15,16,17,18,19,20,21,22,23,24,25,26,27,28,29,30,31,32,33,34,35,36,37,38,39,40,41,42,43,44,45,46,47,48,49,50],[0,1,2,3,4,6,7,8,9,15,16,17,18,19,20,21,22,23,24,25,26,27,28,29,30,31,32,33,34,35,36,37,38,39,40,41,42,43,44,45,46,47,48,49,50],[0,1,2,3,4,5,6,7,8,9,15,16,17,18,19,20,21,22,23,24,25,26,27,28,29,30,31,32,33,34,35,36,37,38,39,40,41,42,43,44,45,46,47,48,49,50],[0],[0],[0],[0],[0],[0],[0],[0,5]]
 | 11 => [[0,1],[1,2]]
 | 12 => [[0,1],[0,1],[],[0,1],[0,1,5],[0,1,5],[0,1,5],[],[]]
 | 13 => [[0,1],[0,1],[0,1,6,7]]
 | 14 => [[0],[0]]
 | 15 => [[0,1,2],[0,1,2],[0,1,2,8],[0,1,2,8,9],[0,1,2,8,9],[0,1,2,8,9],[0,1,2,8]]
 | 16 => [[0,1],[0,1],[0,1,6],[0,1],[0,1],[0,1],[0,1],[0,1]]
 | 17 => [[],[]]
 | 18 => [[0],[0]]
 | 19 => [[0,1,2],[0,1,5],[0,1,5,7],[0,1,5,7,8],[0,1,5,7,8,9],[0,1,5,7,8,9,23],[0,1,5,7,8],[0,1,5,7,8,9,23],[0,1,5,7,8],[0,1,5,7,8,9,23],[0,1,5,7,8],[0,1,5,7,8,10,11],[0,1,5,7,8,10,11,12,13],[0,1,5,7,8,9,10],[0,1,5,7,8,9,23],[0,1,5,7,8],[0,1,5,7,8,14],[0,1,5,7,8,9,14],[0,1,5,7,8,9],[0,1,7,8,9,15],[0,1,9,15]]
 | 20 => [[0],[0,2],[0,2],[0,2],[0,2]]
 | 21 => [[0,1,4,10,11,12,13,14,15,16,17,18,19],[0,1,2,4,10,11,12,13,14,15,16,17,18,19],[0,1,2,3,4,10,11,12,13,14,15,16,17,18,19],[0],[0],[0,3]]
 | 22 => [[0],[0],[0,3],[0,3,4],[0,3,4],[0,3,4],[0,3]]
 | 23 => [[0],[1]]
 | 24 => [[0,1],[0,1]]
 | 25 => [[0],[0],[0,3],[3,6,7,8],[3,6,7,8],[3,5,6,7,8],[3,6,7,8],[3]]
 | 26 => [[0,1],[0,1,4],[0,1,4,6],[0,1,4,6],[0,1,4,6],[0,1,4,5,6,7],[0,1,4,5,6,7],[0,1,4,5]]
 | 27 => [[0],[0],[],[0]]
 | 28 => [[0,1],[0,3],[0,3],[0,3,5,6],[3,5,6,7],[3,5,7],[3,5,7],[7],[0,3],[0,3,8]]
 | 29 => [[0],[0],[0,3],[3,9,10,11],[3,9,10,11],[3,5,9,10,11],[3,9,10,11],[3]]
 | 30 => [[0,1],[0,1],[0,1],[0,1,5],[0,1],[0,1,7],[1,7,8],[1,7,8],[1,7,8],[1,7,8],[1,8]]
 | 31 => [[0],[0]]
 | 32 => [[0],[0],[0,3],[0,3],[3]]
 | 33 => [[0,1,2],[0,1,2],[0,1,2,7],[0,1,2,7,8],[0,1,2,7,8,9],[0,1,2,7,8,9],[0,7,8,9],[0,7,8,9],[0,7,8,9],[0,8]]
 | 34 => [[0,1],[0,1],[0,1,5],[0,5,6],[0],[0,5],[0,5,7],[0,5,7],[0]]
 | 35 => [[0,1],[0,1],[0,1,6],[0,6,7],[0],[0,6]]
 | 36 => [[0],[0],[0,3],[0,3],[0,3],[0,3,4],[0,3,4,5],[0,3,4,5],[0,3,4,5],[0],[0,6],[0,6],[0,6],[0,6,7],[0,6,7,8],[0,6,7,8],[0,6,7,8],[],[]]
 | 37 => [[0,1],[0,3],[0,3,5],[0,3,5,6],[0,3,5,6],[0,3,5,6],[0,3,5,6,7],[0,3,5,6],[0,5]]
 | 38 => [[0,1],[0,1]]
 | 39 => [[0,1],[0,3],[0,3],[0,3,4],[0,3,4],[0,3,4,5],[0,3,4,5],[0,3,4,5],[0,3,4]]
 | 40 => [[0,1,2],[0,1,2],[0,1,2,8],[0,1,2,8,9,10],[0,1,2,8,9,10],[0,1,2,8,9,10,11],[0,1,2,8,10,11],[0,1,2,8,9,11],[0,1,2,8,9]]
 | 41 => [[0,1],[1,2]]
 | 42 => [[0,1],[0,1]]
 | 43 => [[0,1],[0,1],[0,1,5],[0,1,5],[5]]
 | 44 => [[0],[0],[],[0]]
 | 45 => [[0,1,2],[0,1,2],[0,1,2],[0,1,2,7],[0],[0,1,2,7],[0,1,2,7,8],[0,2],[0,1,2,7,8],[0,1,2,7,8],[0,1,2,7,9],[0,1,7,9],[9],[0,1,2,7,8],[0,1,2,7,8],[0,1,2,7],[0,1,2],[0],[0,1,2,7,8],[0,1,7],[0]]
 | 46 => [[0],[0],[0],[0],[0,3]]
 | 47 => [[0],[0],[0],[0],[0,3]]
 | 48 => [[0,1,2,3],[0,1,2,3],[0,1,2,3],[0,1,3],[0,1,2,3],[0,1,3],[0,9],[0,9],[9],[0,1,2,3],[0,1,2,3,10],[0,1,2,3,10],[0,1,2,3,11],[0,1,2,3,11],[11],[0,1,2,3,10],[0,1,2,3,10,12],[0,1,2,3,10,12],[0,1,2,3,10,12],[0,10,12],[12],[0,1,2,3,12],[0,1,2,3,12],[1,3,12],[12],[0,1,2,3,12],[0,1,2,3,12,13],[0,1,2,3,12,13],[0,1,3,12,13],[1,12,13],[12],[0,1,2,3,12,13],[0,1,2,3,12,13],[1,2,3,12,13],[1,12,13],[12],[0,1,2,3,12],[1,3,12,14],[1,3,12,14],[12]]
 | 49 => [[0],[0],[],[0]]
 | 50 => [[0,1,2],[0,1,2],[0,1,2],[0],[0,1,2],[0,1,2,7],[0,7],[0]]
 | 51 => [[0],[0]]
 | 52 => [[0,1],[0,1],[0,1],[0,1]]
 | 53 => [[0,1],[0,1],[0,1,5],[0,1,5],[0,5]]
 | 54 => [[0,1,2],[0,1,2]]
 | 55 => [[0],[0]]
 | 57 => [[0],[0],[0],[0]]
 | 59 => [[0,1]]
 | 60 => [[0,1,2],[0,1,2],[0,1,2],[0,1,2,7],[0],[0,1,2,7],[0,1,2,7,8],[0,2],[0,1,2,7,8],[0,1,2,7,8],[0,1,2,7,9],[0,1,7,9],[9],[0,1,2,7,8],[0,1,2,7,8],[0,1,2,7],[0,1,2],[0],[0,1,2,7,8],[0,1,7],[0]]
 | 62 => [[0,1]]
 | 63 => [[0,1],[0,1,4],[0,4,5],[0,4,5,10,11],[0,4,5,10,11],[0,4,5,6,10,11],[6],[0,4,5,10,11],[4]]
 | 64 => [[0],[0],[0,3],[0,3,9,10,11],[0,3,9,10,11],[0,3,5,9,10,11],[0,3,9,10,11],[0,3,9,10,11],[0,3,9,10,11],[0,3],[0,6],[6,25,26,27],[6,25,26,27],[6,8,25,26,27],[6,25,26,27],[6]]
 | 65 => [[0],[0],[0,3],[0,3,9,10,11],[0,3,9,10,11],[0,3,5,9,10,11],[0,3,9,10,11],[0,3,9,10,11],[0,3,9,10,11],[0,3],[0,6],[6,25,26,27],[6,25,26,27],[6,8,25,26,27],[6,25,26,27],[6]]
 | 66 => [[0,1],[0,1],[0]]
 | 67 => [[0,1],[0,1],[0]]
 | 68 => [[0,1],[0,1],[0,1],[0,1],[0,1],[0,1],[0]]
 | 69 => [[0,1],[0,1],[0,1],[0,1],[0,1],[0,1],[0]]
 | 70 => [[0],[0,2,3],[0,2,3],[0,2,3]]
 | 71 => [[0],[0,2,3],[0,2,3],[0,2,3]]
 | _ => []
def mode : Nat → List Md
 | 10 => [.io (.b [false]),.ro]
 | 13 => [.io (.b [false]),.io .os]
 | 14 => [.io (.b [false])]
 | 15 => [.io (.b [false]),.io .os,.io .os]
 | 16 => [.io (.b [false]),.io .os]
 | 18 => [.io (.b [false])]
 | 19 => [.io (.b [false]),.io (.b [true]),.ro]
 | 20 => [.tk]
 | 21 => [.io (.b [false])]
 | 22 => [.io (.b [false])]
 | 26 => [.io (.b [false]),.io .os]
 | 30 => [.ro,.io .os]
 | 33 => [.io (.b [true]),.ro,.ro]
 | 34 => [.io (.b [true]),.ro]
 | 35 => [.io (.b [true]),.ro]
 | 36 => [.tk]
 | 37 => [.io (.b [true]),.ro]
 | 38 => [.io .os,.ro]
 | 44 => [.ro]
 | 45 => [.tk,.ro,.tk]
 | 48 => [.tk,.ro,.ro,.tk]
 | 49 => [.ro]
 | 50 => [.tk,.ro,.ro]
 | 53 => [.io (.b [true]),.ro]
 | 54 => [.io (.b [true]),.ro,.ro]
 | 68 => [.tk,.ro]
 | 69 => [.tk,.ro]
 | _ => []
def res : Nat → List RK
 | 9 => [.b [false]]
 | 10 => [.e]
 | 13 => [.o,.v]
 | 17 => [.b [false]]
 | 18 => [.b [false]]
 | 25 => [.o]
 | 27 => [.o]
 | 28 => [.o]
 | 32 => [.os]
 | 35 => [.o,.v]
 | 37 => [.o]
 | 44 => [.o]
 | 45 => [.o]
 | 46 => [.o]
 | 47 => [.o]
 | 48 => [.o]
 | 49 => [.o]
 | 50 => [.o]
 | 52 => [.o]
 | 55 => [.o]
 | 64 => [.o]
 | 65 => [.o]
 | 68 => [.o]
 | 69 => [.o]
 | _ => []
def frz : Nat → List Bool
 | 29 => [true]
 | 31 => [true]
 | _ => []
noncomputable def prim : Nat → Option (List OV → Option (List OV × List OV))
 | 13 => none
 | 15 => none
 | 16 => none
 | 19 => none
 | 26 => none
 | 30 => none
 | 10 => some T14.primRangeE
 | 20 => some T14.primSpoil
 | g => some (pcall Ytnieankaikhmnaa.C 5000 g)
noncomputable def C : Ctx:={ P:=Try.prog,mode:=mode,res:=res,live:=live,prim:=prim,frz:=frz }
theorem names : namesOk C.P = true:=by kernel_rfl
end Go.Proofs.Ytnieankaikhmnaa.P2

open Go Go.Ev
set_option linter.unusedVariables false
set_option maxRecDepth 100000
namespace Go.Proofs.Ytnieankaikhmnaa.P2
noncomputable def f13_btree_Tree_Get (rec : Rec) (n : Nat) (a0 : PV) (a1 : List PV) (a2 : List PV) : Option (List OV × List OV) :=
 callB (rec 26 [OV.cont .box [FV.val (PV.ptr (some 3) a0)],OV.flat (FV.own none a1 a2)]) fun r1 => needB (okOs Try.prog [33,4] [] (Prod.fst r1)) <|
 needB (okOuts Try.prog [25,23] [.io (.b [false]),.io .os] (Prod.snd r1)) <|
 callB (rec 27 [OV.flat (FV.val (PV.sl none (PV.toL (List.headD (List.tail (PV.cells (FV.pv (OV.fv (List.headD (Prod.fst r1) (OV.flat FV.gone)))))) PV.undef))))]) fun r2 => needB (okOs Try.prog [23] [.o] (Prod.fst r2)) <|
 some ([OV.flat (FV.own none (FV.xs (OV.fv (List.headD (Prod.fst r2) (OV.flat FV.gone)))) []),OV.flat (FV.val (PV.bool (PV.toB (FV.pv (OV.fv (List.headD (List.tail (Prod.fst r1)) (OV.flat FV.gone)))))))],[OV.cont .box [FV.val (PV.ptr (some 3) (PV.deref (FV.pv (List.headD (OV.cells (List.headD (Prod.snd r1) (OV.flat FV.gone))) FV.gone))))],OV.flat (FV.own none (FV.xs (OV.fv (List.headD (List.tail (Prod.snd r1)) (OV.flat FV.gone)))) (FV.sp (OV.fv (List.headD (List.tail (Prod.snd r1)) (OV.flat FV.gone)))))])
theorem f13_btree_Tree_Get_eq (rec : Rec) (n : Nat) (a0 : PV) (a1 : List PV) (a2 : List PV) : callBody C rec n 13 [OV.cont .box [FV.val (PV.ptr (some 3) a0)],OV.flat (FV.own none a1 a2)] = f13_btree_Tree_Get rec n a0 a1 a2:=by kernel_rfl
noncomputable def f15_btree_Tree_Put (rec : Rec) (n : Nat) (a0 : PV) (a1 : List PV) (a2 : List PV) (a3 : List PV) (a4 : List PV) : Option (List OV × List OV) :=
 callB (rec 26 [OV.cont .box [FV.val (PV.ptr (some 3) a0)],OV.flat (FV.own none a1 a2)]) fun r1 => needB (okOs Try.prog [33,4] [] (Prod.fst r1)) <|
 needB (okOuts Try.prog [25,23] [.io (.b [false]),.io .os] (Prod.snd r1)) <|
 callB (rec 27 [OV.flat (FV.val (PV.sl none (FV.xs (OV.fv (List.headD (List.tail (Prod.snd r1)) (OV.flat FV.gone))))))]) fun r2 => needB (okOs Try.prog [23] [.o] (Prod.fst r2)) <|
 callB (rec 27 [OV.flat (FV.val (PV.sl none a3))]) fun r3 => needB (okOs Try.prog [23] [.o] (Prod.fst r3)) <|
 callB (rec 28 [OV.flat (FV.val (PV.ptr (some 3) (PV.deref (FV.pv (List.headD (OV.cells (List.headD (Prod.snd r1) (OV.flat FV.gone))) FV.gone))))),OV.flat (FV.val (PV.agg [PV.sl none (FV.xs (OV.fv (List.headD (Prod.fst r2) (OV.flat FV.gone)))),PV.sl none (FV.xs (OV.fv (List.headD (Prod.fst r3) (OV.flat FV.gone))))]))]) fun r4 => needB (okOs Try.prog [61] [.o] (Prod.fst r4)) <|
 needB (decide ((0 : Int) < ((List.length (FV.xs (OV.fv (List.headD (Prod.fst r4) (OV.flat FV.gone)))) : Nat) : Int))) <|
 needB (Nat.blt 0 (List.length (FV.xs (OV.fv (List.headD (Prod.fst r4) (OV.flat FV.gone)))))) <|
 needB (hasT Try.prog 55 (nthP (FV.xs (OV.fv (List.headD (Prod.fst r4) (OV.flat FV.gone)))) 0)) <|
 ifB (decide (((List.length (FV.xs (OV.fv (List.headD (Prod.fst r4) (OV.flat FV.gone)))) : Nat) : Int) > (1 : Int)))
 (callB (rec 29 [OV.flat (FV.val (PV.sl none (FV.xs (OV.fv (List.headD (Prod.fst r4) (OV.flat FV.gone))))))]) fun r5 => needB (okOs Try.prog [55] [] (Prod.fst r5)) <|
 some ([OV.flat (FV.val (PV.bool (PV.toB (FV.pv (OV.fv (List.headD (List.tail (Prod.fst r1)) (OV.flat FV.gone)))))))],[OV.cont .box [FV.val (PV.ptr (some 3) (PV.deref (FV.pv (OV.fv (List.headD (Prod.fst r5) (OV.flat FV.gone))))))],OV.flat (FV.own none (FV.xs (OV.fv (List.headD (List.tail (Prod.snd r1)) (OV.flat FV.gone)))) (FV.sp (OV.fv (List.headD (List.tail (Prod.snd r1)) (OV.flat FV.gone))))),OV.flat (FV.own none a3 a4)]))
 (some ([OV.flat (FV.val (PV.bool (PV.toB (FV.pv (OV.fv (List.headD (List.tail (Prod.fst r1)) (OV.flat FV.gone)))))))],[OV.cont .box [FV.val (PV.ptr (some 3) (PV.deref (nthP (FV.xs (OV.fv (List.headD (Prod.fst r4) (OV.flat FV.gone)))) 0)))],OV.flat (FV.own none (FV.xs (OV.fv (List.headD (List.tail (Prod.snd r1)) (OV.flat FV.gone)))) (FV.sp (OV.fv (List.headD (List.tail (Prod.snd r1)) (OV.flat FV.gone))))),OV.flat (FV.own none a3 a4)]))
theorem f15_btree_Tree_Put_eq (rec : Rec) (n : Nat) (a0 : PV) (a1 : List PV) (a2 : List PV) (a3 : List PV) (a4 : List PV) : callBody C rec n 15 [OV.cont .box [FV.val (PV.ptr (some 3) a0)],OV.flat (FV.own none a1 a2),OV.flat (FV.own none a3 a4)] = f15_btree_Tree_Put rec n a0 a1 a2 a3 a4:=by kernel_rfl
noncomputable def f16_btree_Tree_Delete (rec : Rec) (n : Nat) (a0 : PV) (a1 : List PV) (a2 : List PV) : Option (List OV × List OV) :=
 callB (rec 26 [OV.cont .box [FV.val (PV.ptr (some 3) a0)],OV.flat (FV.own none a1 a2)]) fun r1 => needB (okOs Try.prog [33,4] [] (Prod.fst r1)) <|
 needB (okOuts Try.prog [25,23] [.io (.b [false]),.io .os] (Prod.snd r1)) <|
 ifB (!(PV.toB (FV.pv (OV.fv (List.headD (List.tail (Prod.fst r1)) (OV.flat FV.gone))))))
 (some ([OV.flat (FV.val (PV.bool false))],[OV.cont .box [FV.val (PV.ptr (some 3) (PV.deref (FV.pv (List.headD (OV.cells (List.headD (Prod.snd r1) (OV.flat FV.gone))) FV.gone))))],OV.flat (FV.own none (FV.xs (OV.fv (List.headD (List.tail (Prod.snd r1)) (OV.flat FV.gone)))) (FV.sp (OV.fv (List.headD (List.tail (Prod.snd r1)) (OV.flat FV.gone)))))]))
 (callB (rec 30 [OV.flat (FV.val (PV.ptr (some 3) (PV.deref (FV.pv (List.headD (OV.cells (List.headD (Prod.snd r1) (OV.flat FV.gone))) FV.gone))))),OV.flat (FV.own none (FV.xs (OV.fv (List.headD (List.tail (Prod.snd r1)) (OV.flat FV.gone)))) (FV.sp (OV.fv (List.headD (List.tail (Prod.snd r1)) (OV.flat FV.gone)))))]) fun r2 => needB (okOs Try.prog [55] [] (Prod.fst r2)) <|
 needB (okOuts Try.prog [55,23] [.ro,.io .os] (Prod.snd r2)) <|
 needB (isPtrS (PV.ptr (some 3) (PV.deref (FV.pv (OV.fv (List.headD (Prod.fst r2) (OV.flat FV.gone)))))) && hasT Try.prog 63 (PV.deref (PV.ptr (some 3) (PV.deref (FV.pv (OV.fv (List.headD (Prod.fst r2) (OV.flat FV.gone)))))))) <|
 ifB (((List.length (PV.toL (List.headD (List.tail (PV.cells (PV.deref (PV.ptr (some 3) (PV.deref (FV.pv (OV.fv (List.headD (Prod.fst r2) (OV.flat FV.gone))))))))) PV.undef)) : Nat) : Int) == (1 : Int))
 (needB (isPtrS (PV.ptr (some 3) (PV.deref (FV.pv (OV.fv (List.headD (Prod.fst r2) (OV.flat FV.gone)))))) && hasT Try.prog 63 (PV.deref (PV.ptr (some 3) (PV.deref (FV.pv (OV.fv (List.headD (Prod.fst r2) (OV.flat FV.gone)))))))) <|
 needB (decide ((0 : Int) < ((List.length (PV.toL (List.headD (List.tail (PV.cells (PV.deref (PV.ptr (some 3) (PV.deref (FV.pv (OV.fv (List.headD (Prod.fst r2) (OV.flat FV.gone))))))))) PV.undef)) : Nat) : Int))) <|
 needB (hasT Try.prog 55 (nthP (PV.toL (List.headD (List.tail (PV.cells (PV.deref (PV.ptr (some 3) (PV.deref (FV.pv (OV.fv (List.headD (Prod.fst r2) (OV.flat FV.gone))))))))) PV.undef)) 0)) <|
 some ([OV.flat (FV.val (PV.bool true))],[OV.cont .box [FV.val (PV.ptr (some 3) (PV.deref (nthP (PV.toL (List.headD (List.tail (PV.cells (PV.deref (PV.ptr (some 3) (PV.deref (FV.pv (OV.fv (List.headD (Prod.fst r2) (OV.flat FV.gone))))))))) PV.undef)) 0)))],OV.flat (FV.own none (FV.xs (OV.fv (List.headD (List.tail (Prod.snd r2)) (OV.flat FV.gone)))) (FV.sp (OV.fv (List.headD (List.tail (Prod.snd r2)) (OV.flat FV.gone)))))]))
 (some ([OV.flat (FV.val (PV.bool true))],[OV.cont .box [FV.val (PV.ptr (some 3) (PV.deref (FV.pv (OV.fv (List.headD (Prod.fst r2) (OV.flat FV.gone))))))],OV.flat (FV.own none (FV.xs (OV.fv (List.headD (List.tail (Prod.snd r2)) (OV.flat FV.gone)))) (FV.sp (OV.fv (List.headD (List.tail (Prod.snd r2)) (OV.flat FV.gone)))))])))
theorem f16_btree_Tree_Delete_eq (rec : Rec) (n : Nat) (a0 : PV) (a1 : List PV) (a2 : List PV) : callBody C rec n 16 [OV.cont .box [FV.val (PV.ptr (some 3) a0)],OV.flat (FV.own none a1 a2)] = f16_btree_Tree_Delete rec n a0 a1 a2:=by kernel_rfl
noncomputable def f26_btree_Tree_find.l0.step (rec : Rec) (n : Nat) (self_l0 : PV → List PV → List PV → PV → Option (List OV × List OV)) (x0 : PV) (x1 : List PV) (x2 : List PV) (x3 : PV) : Option (List OV × List OV) :=
 needB (isPtrS (PV.ptr (some 3) x3) && hasT Try.prog 63 (PV.deref (PV.ptr (some 3) x3))) <|
 ifB (((List.length (PV.toL (List.headD (List.tail (PV.cells (PV.deref (PV.ptr (some 3) x3)))) PV.undef)) : Nat) : Int) == (0 : Int))
 (callB (rec 24 [OV.flat (FV.val (PV.ptr (some 3) x3)),OV.flat (FV.val (PV.sl none x1))]) fun r1 => needB (okOs Try.prog [3,4] [] (Prod.fst r1)) <|
 ifB (PV.toB (FV.pv (OV.fv (List.headD (List.tail (Prod.fst r1)) (OV.flat FV.gone)))))
 (needB (isPtrS (PV.ptr (some 3) x3) && hasT Try.prog 63 (PV.deref (PV.ptr (some 3) x3))) <|
 needB (decide ((0 : Int) ≤ PV.toI (FV.pv (OV.fv (List.headD (Prod.fst r1) (OV.flat FV.gone)))))) <|
 needB (decide (PV.toI (FV.pv (OV.fv (List.headD (Prod.fst r1) (OV.flat FV.gone)))) < ((List.length (PV.toL (List.headD (PV.cells (PV.deref (PV.ptr (some 3) x3))) PV.undef)) : Nat) : Int))) <|
 needB (hasT Try.prog 33 (nthP (PV.toL (List.headD (PV.cells (PV.deref (PV.ptr (some 3) x3))) PV.undef)) (Int.toNat (PV.toI (FV.pv (OV.fv (List.headD (Prod.fst r1) (OV.flat FV.gone)))))))) <|
 some ([OV.flat (FV.val (PV.agg [PV.sl none (PV.toL (List.headD (PV.cells (nthP (PV.toL (List.headD (PV.cells (PV.deref (PV.ptr (some 3) x3))) PV.undef)) (Int.toNat (PV.toI (FV.pv (OV.fv (List.headD (Prod.fst r1) (OV.flat FV.gone)))))))) PV.undef)),PV.sl none (PV.toL (List.headD (List.tail (PV.cells (nthP (PV.toL (List.headD (PV.cells (PV.deref (PV.ptr (some 3) x3))) PV.undef)) (Int.toNat (PV.toI (FV.pv (OV.fv (List.headD (Prod.fst r1) (OV.flat FV.gone))))))))) PV.undef))])),OV.flat (FV.val (PV.bool (PV.toB (FV.pv (OV.fv (List.headD (List.tail (Prod.fst r1)) (OV.flat FV.gone)))))))],[OV.cont .box [FV.val (PV.ptr (some 3) x0)],OV.flat (FV.own none x1 x2)]))
 (some ([OV.flat (FV.val (PV.agg [PV.sl none [],PV.sl none []])),OV.flat (FV.val (PV.bool (PV.toB (FV.pv (OV.fv (List.headD (List.tail (Prod.fst r1)) (OV.flat FV.gone)))))))],[OV.cont .box [FV.val (PV.ptr (some 3) x0)],OV.flat (FV.own none x1 x2)])))
 (needB (isPtrS (PV.ptr (some 3) x3) && hasT Try.prog 63 (PV.deref (PV.ptr (some 3) x3))) <|
 callB (rec 43 [OV.flat (FV.val (PV.ptr (some 3) x3)),OV.flat (FV.val (PV.sl none x1))]) fun r2 => needB (okOs Try.prog [3] [] (Prod.fst r2)) <|
 needB (decide ((0 : Int) ≤ PV.toI (FV.pv (OV.fv (List.headD (Prod.fst r2) (OV.flat FV.gone)))))) <|
 needB (decide (PV.toI (FV.pv (OV.fv (List.headD (Prod.fst r2) (OV.flat FV.gone)))) < ((List.length (PV.toL (List.headD (List.tail (PV.cells (PV.deref (PV.ptr (some 3) x3)))) PV.undef)) : Nat) : Int))) <|
 needB (hasT Try.prog 55 (nthP (PV.toL (List.headD (List.tail (PV.cells (PV.deref (PV.ptr (some 3) x3)))) PV.undef)) (Int.toNat (PV.toI (FV.pv (OV.fv (List.headD (Prod.fst r2) (OV.flat FV.gone)))))))) <|
 self_l0 x0 x1 x2 (PV.deref (nthP (PV.toL (List.headD (List.tail (PV.cells (PV.deref (PV.ptr (some 3) x3)))) PV.undef)) (Int.toNat (PV.toI (FV.pv (OV.fv (List.headD (Prod.fst r2) (OV.flat FV.gone)))))))))
noncomputable def f26_btree_Tree_find.l0 (rec : Rec) (n : Nat) : Nat → PV → List PV → List PV → PV → Option (List OV × List OV)
 | 0,_,_,_,_ => none
 | m + 1,x0,x1,x2,x3 => f26_btree_Tree_find.l0.step rec n (f26_btree_Tree_find.l0 rec n m) x0 x1 x2 x3
theorem f26_btree_Tree_find.l0_eq (rec : Rec) (n : Nat) : ∀ (m : Nat) (x0 : PV) (x1 : List PV) (x2 : List PV) (x3 : PV),loopAt C rec n 26 [1,0,1,1,0,0] [] m [(0,SV.home (OV.cont .box [FV.val (PV.ptr (some 3) x0)])),(1,SV.home (OV.flat (FV.own none x1 x2))),(4,SV.home (OV.cont .box [FV.nil none,FV.nil none])),(6,SV.home (OV.flat (FV.val (PV.ptr (some 3) x3))))] = f26_btree_Tree_find.l0 rec n m x0 x1 x2 x3
 | 0,x0,x1,x2,x3 => by kernel_rfl
 | m + 1,x0,x1,x2,x3 => by
   have ih : (fun x0 x1 x2 x3 => loopAt C rec n 26 [1,0,1,1,0,0] [] m [(0,SV.home (OV.cont .box [FV.val (PV.ptr (some 3) x0)])),(1,SV.home (OV.flat (FV.own none x1 x2))),(4,SV.home (OV.cont .box [FV.nil none,FV.nil none])),(6,SV.home (OV.flat (FV.val (PV.ptr (some 3) x3))))]) = f26_btree_Tree_find.l0 rec n m:=funext fun x0 => funext fun x1 => funext fun x2 => funext fun x3 => f26_btree_Tree_find.l0_eq rec n m x0 x1 x2 x3
   exact (show loopAt C rec n 26 [1,0,1,1,0,0] [] (m + 1) [(0,SV.home (OV.cont .box [FV.val (PV.ptr (some 3) x0)])),(1,SV.home (OV.flat (FV.own none x1 x2))),(4,SV.home (OV.cont .box [FV.nil none,FV.nil none])),(6,SV.home (OV.flat (FV.val (PV.ptr (some 3) x3))))] = f26_btree_Tree_find.l0.step rec n (fun x0 x1 x2 x3 => loopAt C rec n 26 [1,0,1,1,0,0] [] m [(0,SV.home (OV.cont .box [FV.val (PV.ptr (some 3) x0)])),(1,SV.home (OV.flat (FV.own none x1 x2))),(4,SV.home (OV.cont .box [FV.nil none,FV.nil none])),(6,SV.home (OV.flat (FV.val (PV.ptr (some 3) x3))))]) x0 x1 x2 x3 from by kernel_rfl).trans (by rw [ih];rfl)
noncomputable def f26_btree_Tree_find.pre (rec : Rec) (n : Nat) (l0 : PV → List PV → List PV → PV → Option (List OV × List OV)) (a0 : PV) (a1 : List PV) (a2 : List PV) : Option (List OV × List OV) :=
 l0 a0 a1 a2 a0
noncomputable def f26_btree_Tree_find (rec : Rec) (n : Nat) (a0 : PV) (a1 : List PV) (a2 : List PV) : Option (List OV × List OV):=f26_btree_Tree_find.pre rec n (f26_btree_Tree_find.l0 rec n n) a0 a1 a2
theorem f26_btree_Tree_find_eq (rec : Rec) (n : Nat) (a0 : PV) (a1 : List PV) (a2 : List PV) : callBody C rec n 26 [OV.cont .box [FV.val (PV.ptr (some 3) a0)],OV.flat (FV.own none a1 a2)] = f26_btree_Tree_find rec n a0 a1 a2:=by
 have i0 : (fun x0 x1 x2 x3 => loopAt C rec n 26 [1,0,1,1,0,0] [] n [(0,SV.home (OV.cont .box [FV.val (PV.ptr (some 3) x0)])),(1,SV.home (OV.flat (FV.own none x1 x2))),(4,SV.home (OV.cont .box [FV.nil none,FV.nil none])),(6,SV.home (OV.flat (FV.val (PV.ptr (some 3) x3))))]) = f26_btree_Tree_find.l0 rec n n:=funext fun x0 => funext fun x1 => funext fun x2 => funext fun x3 => f26_btree_Tree_find.l0_eq rec n n x0 x1 x2 x3
 exact (show callBody C rec n 26 [OV.cont .box [FV.val (PV.ptr (some 3) a0)],OV.flat (FV.own none a1 a2)] = f26_btree_Tree_find.pre rec n (fun x0 x1 x2 x3 => loopAt C rec n 26 [1,0,1,1,0,0] [] n [(0,SV.home (OV.cont .box [FV.val (PV.ptr (some 3) x0)])),(1,SV.home (OV.flat (FV.own none x1 x2))),(4,SV.home (OV.cont .box [FV.nil none,FV.nil none])),(6,SV.home (OV.flat (FV.val (PV.ptr (some 3) x3))))]) a0 a1 a2 from by kernel_rfl).trans (by rw [i0];rfl)
noncomputable def f30_btree_page_without (rec : Rec) (n : Nat) (a0 : PV) (a1 : List PV) (a2 : List PV) : Option (List OV × List OV) :=
 needB (isPtrS (PV.ptr (some 3) a0) && hasT Try.prog 63 (PV.deref (PV.ptr (some 3) a0))) <|
 ifB (((List.length (PV.toL (List.headD (List.tail (PV.cells (PV.deref (PV.ptr (some 3) a0)))) PV.undef)) : Nat) : Int) == (0 : Int))
 (callB (rec 24 [OV.flat (FV.val (PV.ptr (some 3) a0)),OV.flat (FV.val (PV.sl none a1))]) fun r1 => needB (okOs Try.prog [3,4] [] (Prod.fst r1)) <|
 needB (isPtrS (PV.ptr (some 3) a0) && hasT Try.prog 63 (PV.deref (PV.ptr (some 3) a0))) <|
 callB (rec 44 [OV.flat (FV.val (PV.sl (some 2) (PV.toL (List.headD (PV.cells (PV.deref (PV.ptr (some 3) a0))) PV.undef))))]) fun r2 => needB (okOs Try.prog [27] [.o] (Prod.fst r2)) <|
 callB (rec 50 [OV.flat (FV.own (some 2) (FV.xs (OV.fv (List.headD (Prod.fst r2) (OV.flat FV.gone)))) []),OV.flat (FV.val (PV.int .i64 (PV.toI (FV.pv (OV.fv (List.headD (Prod.fst r1) (OV.flat FV.gone))))))),OV.flat (FV.val (PV.int .i64 (IntKind.wrap .i64 (PV.toI (FV.pv (OV.fv (List.headD (Prod.fst r1) (OV.flat FV.gone)))) + (1 : Int)))))]) fun r3 => needB (okOs Try.prog [27] [.o] (Prod.fst r3)) <|
 callB (rec 31 [OV.flat (FV.val (PV.sl (some 2) (FV.xs (OV.fv (List.headD (Prod.fst r3) (OV.flat FV.gone))))))]) fun r4 => needB (okOs Try.prog [55] [] (Prod.fst r4)) <|
 some ([OV.flat (FV.val (PV.ptr (some 3) (PV.deref (FV.pv (OV.fv (List.headD (Prod.fst r4) (OV.flat FV.gone)))))))],[OV.flat FV.gone,OV.flat (FV.own none a1 a2)]))
 (callB (rec 43 [OV.flat (FV.val (PV.ptr (some 3) a0)),OV.flat (FV.val (PV.sl none a1))]) fun r5 => needB (okOs Try.prog [3] [] (Prod.fst r5)) <|
 needB (isPtrS (PV.ptr (some 3) a0) && hasT Try.prog 63 (PV.deref (PV.ptr (some 3) a0))) <|
 callB (rec 49 [OV.flat (FV.val (PV.sl none (PV.toL (List.headD (List.tail (PV.cells (PV.deref (PV.ptr (some 3) a0)))) PV.undef))))]) fun r6 => needB (okOs Try.prog [61] [.o] (Prod.fst r6)) <|
 needB (decide ((0 : Int) ≤ PV.toI (FV.pv (OV.fv (List.headD (Prod.fst r5) (OV.flat FV.gone)))))) <|
 needB (decide (PV.toI (FV.pv (OV.fv (List.headD (Prod.fst r5) (OV.flat FV.gone)))) < ((List.length (FV.xs (OV.fv (List.headD (Prod.fst r6) (OV.flat FV.gone)))) : Nat) : Int))) <|
 needB (Nat.blt (Int.toNat (PV.toI (FV.pv (OV.fv (List.headD (Prod.fst r5) (OV.flat FV.gone)))))) (List.length (FV.xs (OV.fv (List.headD (Prod.fst r6) (OV.flat FV.gone)))))) <|
 needB (hasT Try.prog 55 (nthP (FV.xs (OV.fv (List.headD (Prod.fst r6) (OV.flat FV.gone)))) (Int.toNat (PV.toI (FV.pv (OV.fv (List.headD (Prod.fst r5) (OV.flat FV.gone)))))))) <|
 callB (rec 30 [OV.flat (FV.val (PV.ptr (some 3) (PV.deref (nthP (FV.xs (OV.fv (List.headD (Prod.fst r6) (OV.flat FV.gone)))) (Int.toNat (PV.toI (FV.pv (OV.fv (List.headD (Prod.fst r5) (OV.flat FV.gone)))))))))),OV.flat (FV.own none a1 a2)]) fun r7 => needB (okOs Try.prog [55] [] (Prod.fst r7)) <|
 needB (okOuts Try.prog [55,23] [.ro,.io .os] (Prod.snd r7)) <|
 needB (decide ((0 : Int) ≤ PV.toI (FV.pv (OV.fv (List.headD (Prod.fst r5) (OV.flat FV.gone)))))) <|
 needB (decide (PV.toI (FV.pv (OV.fv (List.headD (Prod.fst r5) (OV.flat FV.gone)))) < ((List.length (FV.xs (OV.fv (List.headD (Prod.fst r6) (OV.flat FV.gone)))) : Nat) : Int))) <|
 needB (Nat.blt (Int.toNat (PV.toI (FV.pv (OV.fv (List.headD (Prod.fst r5) (OV.flat FV.gone)))))) (List.length (FV.xs (OV.fv (List.headD (Prod.fst r6) (OV.flat FV.gone)))))) <|
 needB (decide ((0 : Int) ≤ PV.toI (FV.pv (OV.fv (List.headD (Prod.fst r5) (OV.flat FV.gone)))))) <|
 needB (decide (PV.toI (FV.pv (OV.fv (List.headD (Prod.fst r5) (OV.flat FV.gone)))) < ((List.length (List.set (FV.xs (OV.fv (List.headD (Prod.fst r6) (OV.flat FV.gone)))) (Int.toNat (PV.toI (FV.pv (OV.fv (List.headD (Prod.fst r5) (OV.flat FV.gone)))))) (PV.ptr (some 3) (PV.deref (FV.pv (OV.fv (List.headD (Prod.fst r7) (OV.flat FV.gone))))))) : Nat) : Int))) <|
 needB (Nat.blt (Int.toNat (PV.toI (FV.pv (OV.fv (List.headD (Prod.fst r5) (OV.flat FV.gone)))))) (List.length (List.set (FV.xs (OV.fv (List.headD (Prod.fst r6) (OV.flat FV.gone)))) (Int.toNat (PV.toI (FV.pv (OV.fv (List.headD (Prod.fst r5) (OV.flat FV.gone)))))) (PV.ptr (some 3) (PV.deref (FV.pv (OV.fv (List.headD (Prod.fst r7) (OV.flat FV.gone))))))))) <|
 needB (hasT Try.prog 55 (nthP (List.set (FV.xs (OV.fv (List.headD (Prod.fst r6) (OV.flat FV.gone)))) (Int.toNat (PV.toI (FV.pv (OV.fv (List.headD (Prod.fst r5) (OV.flat FV.gone)))))) (PV.ptr (some 3) (PV.deref (FV.pv (OV.fv (List.headD (Prod.fst r7) (OV.flat FV.gone))))))) (Int.toNat (PV.toI (FV.pv (OV.fv (List.headD (Prod.fst r5) (OV.flat FV.gone)))))))) <|
 callB (rec 51 [OV.flat (FV.val (PV.ptr (some 3) (PV.deref (nthP (List.set (FV.xs (OV.fv (List.headD (Prod.fst r6) (OV.flat FV.gone)))) (Int.toNat (PV.toI (FV.pv (OV.fv (List.headD (Prod.fst r5) (OV.flat FV.gone)))))) (PV.ptr (some 3) (PV.deref (FV.pv (OV.fv (List.headD (Prod.fst r7) (OV.flat FV.gone))))))) (Int.toNat (PV.toI (FV.pv (OV.fv (List.headD (Prod.fst r5) (OV.flat FV.gone))))))))))]) fun r8 => needB (okOs Try.prog [3] [] (Prod.fst r8)) <|
 ifB (decide (PV.toI (FV.pv (OV.fv (List.headD (Prod.fst r8) (OV.flat FV.gone)))) < (2 : Int)))
 (needB (decide ((0 : Int) ≤ mnI (PV.toI (FV.pv (OV.fv (List.headD (Prod.fst r5) (OV.flat FV.gone))))) (IntKind.wrap .i64 (((List.length (List.set (FV.xs (OV.fv (List.headD (Prod.fst r6) (OV.flat FV.gone)))) (Int.toNat (PV.toI (FV.pv (OV.fv (List.headD (Prod.fst r5) (OV.flat FV.gone)))))) (PV.ptr (some 3) (PV.deref (FV.pv (OV.fv (List.headD (Prod.fst r7) (OV.flat FV.gone))))))) : Nat) : Int) - (2 : Int))))) <|
 needB (decide (mnI (PV.toI (FV.pv (OV.fv (List.headD (Prod.fst r5) (OV.flat FV.gone))))) (IntKind.wrap .i64 (((List.length (List.set (FV.xs (OV.fv (List.headD (Prod.fst r6) (OV.flat FV.gone)))) (Int.toNat (PV.toI (FV.pv (OV.fv (List.headD (Prod.fst r5) (OV.flat FV.gone)))))) (PV.ptr (some 3) (PV.deref (FV.pv (OV.fv (List.headD (Prod.fst r7) (OV.flat FV.gone))))))) : Nat) : Int) - (2 : Int))) < ((List.length (List.set (FV.xs (OV.fv (List.headD (Prod.fst r6) (OV.flat FV.gone)))) (Int.toNat (PV.toI (FV.pv (OV.fv (List.headD (Prod.fst r5) (OV.flat FV.gone)))))) (PV.ptr (some 3) (PV.deref (FV.pv (OV.fv (List.headD (Prod.fst r7) (OV.flat FV.gone))))))) : Nat) : Int))) <|
 needB (Nat.blt (Int.toNat (mnI (PV.toI (FV.pv (OV.fv (List.headD (Prod.fst r5) (OV.flat FV.gone))))) (IntKind.wrap .i64 (((List.length (List.set (FV.xs (OV.fv (List.headD (Prod.fst r6) (OV.flat FV.gone)))) (Int.toNat (PV.toI (FV.pv (OV.fv (List.headD (Prod.fst r5) (OV.flat FV.gone)))))) (PV.ptr (some 3) (PV.deref (FV.pv (OV.fv (List.headD (Prod.fst r7) (OV.flat FV.gone))))))) : Nat) : Int) - (2 : Int))))) (List.length (List.set (FV.xs (OV.fv (List.headD (Prod.fst r6) (OV.flat FV.gone)))) (Int.toNat (PV.toI (FV.pv (OV.fv (List.headD (Prod.fst r5) (OV.flat FV.gone)))))) (PV.ptr (some 3) (PV.deref (FV.pv (OV.fv (List.headD (Prod.fst r7) (OV.flat FV.gone))))))))) <|
 needB (hasT Try.prog 55 (nthP (List.set (FV.xs (OV.fv (List.headD (Prod.fst r6) (OV.flat FV.gone)))) (Int.toNat (PV.toI (FV.pv (OV.fv (List.headD (Prod.fst r5) (OV.flat FV.gone)))))) (PV.ptr (some 3) (PV.deref (FV.pv (OV.fv (List.headD (Prod.fst r7) (OV.flat FV.gone))))))) (Int.toNat (mnI (PV.toI (FV.pv (OV.fv (List.headD (Prod.fst r5) (OV.flat FV.gone))))) (IntKind.wrap .i64 (((List.length (List.set (FV.xs (OV.fv (List.headD (Prod.fst r6) (OV.flat FV.gone)))) (Int.toNat (PV.toI (FV.pv (OV.fv (List.headD (Prod.fst r5) (OV.flat FV.gone)))))) (PV.ptr (some 3) (PV.deref (FV.pv (OV.fv (List.headD (Prod.fst r7) (OV.flat FV.gone))))))) : Nat) : Int) - (2 : Int))))))) <|
 needB (decide ((0 : Int) ≤ IntKind.wrap .i64 (mnI (PV.toI (FV.pv (OV.fv (List.headD (Prod.fst r5) (OV.flat FV.gone))))) (IntKind.wrap .i64 (((List.length (List.set (FV.xs (OV.fv (List.headD (Prod.fst r6) (OV.flat FV.gone)))) (Int.toNat (PV.toI (FV.pv (OV.fv (List.headD (Prod.fst r5) (OV.flat FV.gone)))))) (PV.ptr (some 3) (PV.deref (FV.pv (OV.fv (List.headD (Prod.fst r7) (OV.flat FV.gone))))))) : Nat) : Int) - (2 : Int))) + (1 : Int)))) <|
 needB (decide (IntKind.wrap .i64 (mnI (PV.toI (FV.pv (OV.fv (List.headD (Prod.fst r5) (OV.flat FV.gone))))) (IntKind.wrap .i64 (((List.length (List.set (FV.xs (OV.fv (List.headD (Prod.fst r6) (OV.flat FV.gone)))) (Int.toNat (PV.toI (FV.pv (OV.fv (List.headD (Prod.fst r5) (OV.flat FV.gone)))))) (PV.ptr (some 3) (PV.deref (FV.pv (OV.fv (List.headD (Prod.fst r7) (OV.flat FV.gone))))))) : Nat) : Int) - (2 : Int))) + (1 : Int)) < ((List.length (List.set (FV.xs (OV.fv (List.headD (Prod.fst r6) (OV.flat FV.gone)))) (Int.toNat (PV.toI (FV.pv (OV.fv (List.headD (Prod.fst r5) (OV.flat FV.gone)))))) (PV.ptr (some 3) (PV.deref (FV.pv (OV.fv (List.headD (Prod.fst r7) (OV.flat FV.gone))))))) : Nat) : Int))) <|
 needB (Nat.blt (Int.toNat (IntKind.wrap .i64 (mnI (PV.toI (FV.pv (OV.fv (List.headD (Prod.fst r5) (OV.flat FV.gone))))) (IntKind.wrap .i64 (((List.length (List.set (FV.xs (OV.fv (List.headD (Prod.fst r6) (OV.flat FV.gone)))) (Int.toNat (PV.toI (FV.pv (OV.fv (List.headD (Prod.fst r5) (OV.flat FV.gone)))))) (PV.ptr (some 3) (PV.deref (FV.pv (OV.fv (List.headD (Prod.fst r7) (OV.flat FV.gone))))))) : Nat) : Int) - (2 : Int))) + (1 : Int)))) (List.length (List.set (FV.xs (OV.fv (List.headD (Prod.fst r6) (OV.flat FV.gone)))) (Int.toNat (PV.toI (FV.pv (OV.fv (List.headD (Prod.fst r5) (OV.flat FV.gone)))))) (PV.ptr (some 3) (PV.deref (FV.pv (OV.fv (List.headD (Prod.fst r7) (OV.flat FV.gone))))))))) <|
 needB (hasT Try.prog 55 (nthP (List.set (FV.xs (OV.fv (List.headD (Prod.fst r6) (OV.flat FV.gone)))) (Int.toNat (PV.toI (FV.pv (OV.fv (List.headD (Prod.fst r5) (OV.flat FV.gone)))))) (PV.ptr (some 3) (PV.deref (FV.pv (OV.fv (List.headD (Prod.fst r7) (OV.flat FV.gone))))))) (Int.toNat (IntKind.wrap .i64 (mnI (PV.toI (FV.pv (OV.fv (List.headD (Prod.fst r5) (OV.flat FV.gone))))) (IntKind.wrap .i64 (((List.length (List.set (FV.xs (OV.fv (List.headD (Prod.fst r6) (OV.flat FV.gone)))) (Int.toNat (PV.toI (FV.pv (OV.fv (List.headD (Prod.fst r5) (OV.flat FV.gone)))))) (PV.ptr (some 3) (PV.deref (FV.pv (OV.fv (List.headD (Prod.fst r7) (OV.flat FV.gone))))))) : Nat) : Int) - (2 : Int))) + (1 : Int)))))) <|
 callB (rec 52 [OV.flat (FV.val (PV.ptr (some 3) (PV.deref (nthP (List.set (FV.xs (OV.fv (List.headD (Prod.fst r6) (OV.flat FV.gone)))) (Int.toNat (PV.toI (FV.pv (OV.fv (List.headD (Prod.fst r5) (OV.flat FV.gone)))))) (PV.ptr (some 3) (PV.deref (FV.pv (OV.fv (List.headD (Prod.fst r7) (OV.flat FV.gone))))))) (Int.toNat (mnI (PV.toI (FV.pv (OV.fv (List.headD (Prod.fst r5) (OV.flat FV.gone))))) (IntKind.wrap .i64 (((List.length (List.set (FV.xs (OV.fv (List.headD (Prod.fst r6) (OV.flat FV.gone)))) (Int.toNat (PV.toI (FV.pv (OV.fv (List.headD (Prod.fst r5) (OV.flat FV.gone)))))) (PV.ptr (some 3) (PV.deref (FV.pv (OV.fv (List.headD (Prod.fst r7) (OV.flat FV.gone))))))) : Nat) : Int) - (2 : Int))))))))),OV.flat (FV.val (PV.ptr (some 3) (PV.deref (nthP (List.set (FV.xs (OV.fv (List.headD (Prod.fst r6) (OV.flat FV.gone)))) (Int.toNat (PV.toI (FV.pv (OV.fv (List.headD (Prod.fst r5) (OV.flat FV.gone)))))) (PV.ptr (some 3) (PV.deref (FV.pv (OV.fv (List.headD (Prod.fst r7) (OV.flat FV.gone))))))) (Int.toNat (IntKind.wrap .i64 (mnI (PV.toI (FV.pv (OV.fv (List.headD (Prod.fst r5) (OV.flat FV.gone))))) (IntKind.wrap .i64 (((List.length (List.set (FV.xs (OV.fv (List.headD (Prod.fst r6) (OV.flat FV.gone)))) (Int.toNat (PV.toI (FV.pv (OV.fv (List.headD (Prod.fst r5) (OV.flat FV.gone)))))) (PV.ptr (some 3) (PV.deref (FV.pv (OV.fv (List.headD (Prod.fst r7) (OV.flat FV.gone))))))) : Nat) : Int) - (2 : Int))) + (1 : Int))))))))]) fun r9 => needB (okOs Try.prog [61] [.o] (Prod.fst r9)) <|
 callB (rec 48 [OV.flat (FV.own none (List.set (FV.xs (OV.fv (List.headD (Prod.fst r6) (OV.flat FV.gone)))) (Int.toNat (PV.toI (FV.pv (OV.fv (List.headD (Prod.fst r5) (OV.flat FV.gone)))))) (PV.ptr (some 3) (PV.deref (FV.pv (OV.fv (List.headD (Prod.fst r7) (OV.flat FV.gone))))))) []),OV.flat (FV.val (PV.int .i64 (mnI (PV.toI (FV.pv (OV.fv (List.headD (Prod.fst r5) (OV.flat FV.gone))))) (IntKind.wrap .i64 (((List.length (List.set (FV.xs (OV.fv (List.headD (Prod.fst r6) (OV.flat FV.gone)))) (Int.toNat (PV.toI (FV.pv (OV.fv (List.headD (Prod.fst r5) (OV.flat FV.gone)))))) (PV.ptr (some 3) (PV.deref (FV.pv (OV.fv (List.headD (Prod.fst r7) (OV.flat FV.gone))))))) : Nat) : Int) - (2 : Int)))))),OV.flat (FV.val (PV.int .i64 (IntKind.wrap .i64 (mnI (PV.toI (FV.pv (OV.fv (List.headD (Prod.fst r5) (OV.flat FV.gone))))) (IntKind.wrap .i64 (((List.length (List.set (FV.xs (OV.fv (List.headD (Prod.fst r6) (OV.flat FV.gone)))) (Int.toNat (PV.toI (FV.pv (OV.fv (List.headD (Prod.fst r5) (OV.flat FV.gone)))))) (PV.ptr (some 3) (PV.deref (FV.pv (OV.fv (List.headD (Prod.fst r7) (OV.flat FV.gone))))))) : Nat) : Int) - (2 : Int))) + (2 : Int))))),OV.flat (FV.own none (FV.xs (OV.fv (List.headD (Prod.fst r9) (OV.flat FV.gone)))) [])]) fun r10 => needB (okOs Try.prog [61] [.o] (Prod.fst r10)) <|
 callB (rec 29 [OV.flat (FV.val (PV.sl none (FV.xs (OV.fv (List.headD (Prod.fst r10) (OV.flat FV.gone))))))]) fun r11 => needB (okOs Try.prog [55] [] (Prod.fst r11)) <|
 some ([OV.flat (FV.val (PV.ptr (some 3) (PV.deref (FV.pv (OV.fv (List.headD (Prod.fst r11) (OV.flat FV.gone)))))))],[OV.flat FV.gone,OV.flat (FV.own none (FV.xs (OV.fv (List.headD (List.tail (Prod.snd r7)) (OV.flat FV.gone)))) (FV.sp (OV.fv (List.headD (List.tail (Prod.snd r7)) (OV.flat FV.gone)))))]))
 (callB (rec 29 [OV.flat (FV.val (PV.sl none (List.set (FV.xs (OV.fv (List.headD (Prod.fst r6) (OV.flat FV.gone)))) (Int.toNat (PV.toI (FV.pv (OV.fv (List.headD (Prod.fst r5) (OV.flat FV.gone)))))) (PV.ptr (some 3) (PV.deref (FV.pv (OV.fv (List.headD (Prod.fst r7) (OV.flat FV.gone)))))))))]) fun r12 => needB (okOs Try.prog [55] [] (Prod.fst r12)) <|
 some ([OV.flat (FV.val (PV.ptr (some 3) (PV.deref (FV.pv (OV.fv (List.headD (Prod.fst r12) (OV.flat FV.gone)))))))],[OV.flat FV.gone,OV.flat (FV.own none (FV.xs (OV.fv (List.headD (List.tail (Prod.snd r7)) (OV.flat FV.gone)))) (FV.sp (OV.fv (List.headD (List.tail (Prod.snd r7)) (OV.flat FV.gone)))))])))
theorem f30_btree_page_without_eq (rec : Rec) (n : Nat) (a0 : PV) (a1 : List PV) (a2 : List PV) : callBody C rec n 30 [OV.flat (FV.val (PV.ptr (some 3) a0)),OV.flat (FV.own none a1 a2)] = f30_btree_page_without rec n a0 a1 a2:=by kernel_rfl
noncomputable def f19_vestrylaw14_act (rec : Rec) (n : Nat) (a0 : PV) (a1 : List PV) (a2 : Int) (a3 : List PV) (a4 : List PV) (a5 : List PV) (a6 : List PV) (a7 : Bool) : Option (List OV × List OV) :=
 callB (rec 32 [OV.flat (FV.val (PV.sl none a3))]) fun r1 => needB (okOs Try.prog [23] [.os] (Prod.fst r1)) <|
 callB (rec 32 [OV.flat (FV.val (PV.sl none a4))]) fun r2 => needB (okOs Try.prog [23] [.os] (Prod.fst r2)) <|
 ifB (a2 == (0 : Int))
 (callB (rec 15 [OV.cont .box [FV.val (PV.ptr (some 3) a0)],OV.flat (FV.own none (FV.xs (OV.fv (List.headD (Prod.fst r1) (OV.flat FV.gone)))) (FV.sp (OV.fv (List.headD (Prod.fst r1) (OV.flat FV.gone))))),OV.flat (FV.own none (FV.xs (OV.fv (List.headD (Prod.fst r2) (OV.flat FV.gone)))) (FV.sp (OV.fv (List.headD (Prod.fst r2) (OV.flat FV.gone)))))]) fun r3 => needB (okOs Try.prog [4] [] (Prod.fst r3)) <|
 needB (okOuts Try.prog [25,23,23] [.io (.b [false]),.io .os,.io .os] (Prod.snd r3)) <|
 callB (rec 33 [OV.cont .box [FV.own (some 2) a1 []],OV.flat (FV.val (PV.sl none a3)),OV.flat (FV.val (PV.sl none a4))]) fun r4 => needB (okOs Try.prog [4] [] (Prod.fst r4)) <|
 needB (okOuts Try.prog [42,23,23] [.io (.b [true]),.ro,.ro] (Prod.snd r4)) <|
 callB (rec 38 [OV.flat (FV.own none (FV.xs (OV.fv (List.headD (List.tail (Prod.snd r3)) (OV.flat FV.gone)))) (FV.sp (OV.fv (List.headD (List.tail (Prod.snd r3)) (OV.flat FV.gone))))),OV.flat (FV.val (PV.sl none a3))]) fun r5 => needB (okOs Try.prog [4] [] (Prod.fst r5)) <|
 needB (okOuts Try.prog [23,23] [.io .os,.ro] (Prod.snd r5)) <|
 ifB (PV.toB (FV.pv (OV.fv (List.headD (Prod.fst r5) (OV.flat FV.gone)))))
 (callB (rec 38 [OV.flat (FV.own none (FV.xs (OV.fv (List.headD (List.tail (List.tail (Prod.snd r3))) (OV.flat FV.gone)))) (FV.sp (OV.fv (List.headD (List.tail (List.tail (Prod.snd r3))) (OV.flat FV.gone))))),OV.flat (FV.val (PV.sl none a4))]) fun r6 => needB (okOs Try.prog [4] [] (Prod.fst r6)) <|
 needB (okOuts Try.prog [23,23] [.io .os,.ro] (Prod.snd r6)) <|
 callB (rec 36 [OV.cont .nest [FV.own none (FV.xs (OV.fv (List.headD (Prod.snd r5) (OV.flat FV.gone)))) (FV.sp (OV.fv (List.headD (Prod.snd r5) (OV.flat FV.gone)))),FV.own none (FV.xs (OV.fv (List.headD (Prod.snd r6) (OV.flat FV.gone)))) (FV.sp (OV.fv (List.headD (Prod.snd r6) (OV.flat FV.gone))))]]) fun r7 => needB (okOs Try.prog [4] [] (Prod.fst r7)) <|
 ifB ((PV.toB (FV.pv (OV.fv (List.headD (Prod.fst r3) (OV.flat FV.gone))))) == (PV.toB (FV.pv (OV.fv (List.headD (Prod.fst r4) (OV.flat FV.gone))))))
 (some ([OV.flat (FV.val (PV.bool (PV.toB (FV.pv (OV.fv (List.headD (Prod.fst r6) (OV.flat FV.gone)))))))],[OV.cont .box [FV.val (PV.ptr (some 3) (PV.deref (FV.pv (List.headD (OV.cells (List.headD (Prod.snd r3) (OV.flat FV.gone))) FV.gone))))],OV.cont .box [FV.own (some 2) (FV.xs (List.headD (OV.cells (List.headD (Prod.snd r4) (OV.flat FV.gone))) FV.gone)) []],OV.flat FV.gone]))
 (some ([OV.flat (FV.val (PV.bool false))],[OV.cont .box [FV.val (PV.ptr (some 3) (PV.deref (FV.pv (List.headD (OV.cells (List.headD (Prod.snd r3) (OV.flat FV.gone))) FV.gone))))],OV.cont .box [FV.own (some 2) (FV.xs (List.headD (OV.cells (List.headD (Prod.snd r4) (OV.flat FV.gone))) FV.gone)) []],OV.flat FV.gone])))
 (callB (rec 36 [OV.cont .nest [FV.own none (FV.xs (OV.fv (List.headD (Prod.snd r5) (OV.flat FV.gone)))) (FV.sp (OV.fv (List.headD (Prod.snd r5) (OV.flat FV.gone)))),FV.own none (FV.xs (OV.fv (List.headD (List.tail (List.tail (Prod.snd r3))) (OV.flat FV.gone)))) (FV.sp (OV.fv (List.headD (List.tail (List.tail (Prod.snd r3))) (OV.flat FV.gone))))]]) fun r8 => needB (okOs Try.prog [4] [] (Prod.fst r8)) <|
 ifB ((PV.toB (FV.pv (OV.fv (List.headD (Prod.fst r3) (OV.flat FV.gone))))) == (PV.toB (FV.pv (OV.fv (List.headD (Prod.fst r4) (OV.flat FV.gone))))))
 (some ([OV.flat (FV.val (PV.bool false))],[OV.cont .box [FV.val (PV.ptr (some 3) (PV.deref (FV.pv (List.headD (OV.cells (List.headD (Prod.snd r3) (OV.flat FV.gone))) FV.gone))))],OV.cont .box [FV.own (some 2) (FV.xs (List.headD (OV.cells (List.headD (Prod.snd r4) (OV.flat FV.gone))) FV.gone)) []],OV.flat FV.gone]))
 (some ([OV.flat (FV.val (PV.bool false))],[OV.cont .box [FV.val (PV.ptr (some 3) (PV.deref (FV.pv (List.headD (OV.cells (List.headD (Prod.snd r3) (OV.flat FV.gone))) FV.gone))))],OV.cont .box [FV.own (some 2) (FV.xs (List.headD (OV.cells (List.headD (Prod.snd r4) (OV.flat FV.gone))) FV.gone)) []],OV.flat FV.gone]))))
 (ifB (a2 == (1 : Int))
 (callB (rec 16 [OV.cont .box [FV.val (PV.ptr (some 3) a0)],OV.flat (FV.own none (FV.xs (OV.fv (List.headD (Prod.fst r1) (OV.flat FV.gone)))) (FV.sp (OV.fv (List.headD (Prod.fst r1) (OV.flat FV.gone)))))]) fun r9 => needB (okOs Try.prog [4] [] (Prod.fst r9)) <|
 needB (okOuts Try.prog [25,23] [.io (.b [false]),.io .os] (Prod.snd r9)) <|
 callB (rec 34 [OV.cont .box [FV.own (some 2) a1 []],OV.flat (FV.val (PV.sl none a3))]) fun r10 => needB (okOs Try.prog [4] [] (Prod.fst r10)) <|
 needB (okOuts Try.prog [42,23] [.io (.b [true]),.ro] (Prod.snd r10)) <|
 callB (rec 38 [OV.flat (FV.own none (FV.xs (OV.fv (List.headD (List.tail (Prod.snd r9)) (OV.flat FV.gone)))) (FV.sp (OV.fv (List.headD (List.tail (Prod.snd r9)) (OV.flat FV.gone))))),OV.flat (FV.val (PV.sl none a3))]) fun r11 => needB (okOs Try.prog [4] [] (Prod.fst r11)) <|
 needB (okOuts Try.prog [23,23] [.io .os,.ro] (Prod.snd r11)) <|
 ifB (PV.toB (FV.pv (OV.fv (List.headD (Prod.fst r11) (OV.flat FV.gone)))))
 (callB (rec 38 [OV.flat (FV.own none (FV.xs (OV.fv (List.headD (Prod.fst r2) (OV.flat FV.gone)))) (FV.sp (OV.fv (List.headD (Prod.fst r2) (OV.flat FV.gone))))),OV.flat (FV.val (PV.sl none a4))]) fun r12 => needB (okOs Try.prog [4] [] (Prod.fst r12)) <|
 needB (okOuts Try.prog [23,23] [.io .os,.ro] (Prod.snd r12)) <|
 callB (rec 36 [OV.cont .nest [FV.own none (FV.xs (OV.fv (List.headD (Prod.snd r11) (OV.flat FV.gone)))) (FV.sp (OV.fv (List.headD (Prod.snd r11) (OV.flat FV.gone)))),FV.own none (FV.xs (OV.fv (List.headD (Prod.snd r12) (OV.flat FV.gone)))) (FV.sp (OV.fv (List.headD (Prod.snd r12) (OV.flat FV.gone))))]]) fun r13 => needB (okOs Try.prog [4] [] (Prod.fst r13)) <|
 ifB ((PV.toB (FV.pv (OV.fv (List.headD (Prod.fst r9) (OV.flat FV.gone))))) == (PV.toB (FV.pv (OV.fv (List.headD (Prod.fst r10) (OV.flat FV.gone))))))
 (some ([OV.flat (FV.val (PV.bool (PV.toB (FV.pv (OV.fv (List.headD (Prod.fst r12) (OV.flat FV.gone)))))))],[OV.cont .box [FV.val (PV.ptr (some 3) (PV.deref (FV.pv (List.headD (OV.cells (List.headD (Prod.snd r9) (OV.flat FV.gone))) FV.gone))))],OV.cont .box [FV.own (some 2) (FV.xs (List.headD (OV.cells (List.headD (Prod.snd r10) (OV.flat FV.gone))) FV.gone)) []],OV.flat FV.gone]))
 (some ([OV.flat (FV.val (PV.bool false))],[OV.cont .box [FV.val (PV.ptr (some 3) (PV.deref (FV.pv (List.headD (OV.cells (List.headD (Prod.snd r9) (OV.flat FV.gone))) FV.gone))))],OV.cont .box [FV.own (some 2) (FV.xs (List.headD (OV.cells (List.headD (Prod.snd r10) (OV.flat FV.gone))) FV.gone)) []],OV.flat FV.gone])))
 (callB (rec 36 [OV.cont .nest [FV.own none (FV.xs (OV.fv (List.headD (Prod.snd r11) (OV.flat FV.gone)))) (FV.sp (OV.fv (List.headD (Prod.snd r11) (OV.flat FV.gone)))),FV.own none (FV.xs (OV.fv (List.headD (Prod.fst r2) (OV.flat FV.gone)))) (FV.sp (OV.fv (List.headD (Prod.fst r2) (OV.flat FV.gone))))]]) fun r14 => needB (okOs Try.prog [4] [] (Prod.fst r14)) <|
 ifB ((PV.toB (FV.pv (OV.fv (List.headD (Prod.fst r9) (OV.flat FV.gone))))) == (PV.toB (FV.pv (OV.fv (List.headD (Prod.fst r10) (OV.flat FV.gone))))))
 (some ([OV.flat (FV.val (PV.bool false))],[OV.cont .box [FV.val (PV.ptr (some 3) (PV.deref (FV.pv (List.headD (OV.cells (List.headD (Prod.snd r9) (OV.flat FV.gone))) FV.gone))))],OV.cont .box [FV.own (some 2) (FV.xs (List.headD (OV.cells (List.headD (Prod.snd r10) (OV.flat FV.gone))) FV.gone)) []],OV.flat FV.gone]))
 (some ([OV.flat (FV.val (PV.bool false))],[OV.cont .box [FV.val (PV.ptr (some 3) (PV.deref (FV.pv (List.headD (OV.cells (List.headD (Prod.snd r9) (OV.flat FV.gone))) FV.gone))))],OV.cont .box [FV.own (some 2) (FV.xs (List.headD (OV.cells (List.headD (Prod.snd r10) (OV.flat FV.gone))) FV.gone)) []],OV.flat FV.gone]))))
 (ifB (a2 == (2 : Int))
 (callB (rec 13 [OV.cont .box [FV.val (PV.ptr (some 3) a0)],OV.flat (FV.own none (FV.xs (OV.fv (List.headD (Prod.fst r1) (OV.flat FV.gone)))) (FV.sp (OV.fv (List.headD (Prod.fst r1) (OV.flat FV.gone)))))]) fun r15 => needB (okOs Try.prog [23,4] [.o,.v] (Prod.fst r15)) <|
 needB (okOuts Try.prog [25,23] [.io (.b [false]),.io .os] (Prod.snd r15)) <|
 callB (rec 35 [OV.cont .box [FV.own (some 2) a1 []],OV.flat (FV.val (PV.sl none a3))]) fun r16 => needB (okOs Try.prog [23,4] [.o,.v] (Prod.fst r16)) <|
 needB (okOuts Try.prog [42,23] [.io (.b [true]),.ro] (Prod.snd r16)) <|
 needB (List.all (FV.xs (OV.fv (List.headD (Prod.fst r15) (OV.flat FV.gone)))) isByte) <|
 needB (List.all (FV.xs (OV.fv (List.headD (Prod.fst r16) (OV.flat FV.gone)))) isByte) <|
 ifB ((List.map u8Of (FV.xs (OV.fv (List.headD (Prod.fst r15) (OV.flat FV.gone))))) == (List.map u8Of (FV.xs (OV.fv (List.headD (Prod.fst r16) (OV.flat FV.gone))))))
 (callB (rec 36 [OV.cont .nest [FV.own none (FV.xs (OV.fv (List.headD (Prod.fst r15) (OV.flat FV.gone)))) []]]) fun r17 => needB (okOs Try.prog [4] [] (Prod.fst r17)) <|
 callB (rec 38 [OV.flat (FV.own none (FV.xs (OV.fv (List.headD (List.tail (Prod.snd r15)) (OV.flat FV.gone)))) (FV.sp (OV.fv (List.headD (List.tail (Prod.snd r15)) (OV.flat FV.gone))))),OV.flat (FV.val (PV.sl none a3))]) fun r18 => needB (okOs Try.prog [4] [] (Prod.fst r18)) <|
 needB (okOuts Try.prog [23,23] [.io .os,.ro] (Prod.snd r18)) <|
 ifB (PV.toB (FV.pv (OV.fv (List.headD (Prod.fst r18) (OV.flat FV.gone)))))
 (callB (rec 38 [OV.flat (FV.own none (FV.xs (OV.fv (List.headD (Prod.fst r2) (OV.flat FV.gone)))) (FV.sp (OV.fv (List.headD (Prod.fst r2) (OV.flat FV.gone))))),OV.flat (FV.val (PV.sl none a4))]) fun r19 => needB (okOs Try.prog [4] [] (Prod.fst r19)) <|
 needB (okOuts Try.prog [23,23] [.io .os,.ro] (Prod.snd r19)) <|
 callB (rec 36 [OV.cont .nest [FV.own none (FV.xs (OV.fv (List.headD (Prod.snd r18) (OV.flat FV.gone)))) (FV.sp (OV.fv (List.headD (Prod.snd r18) (OV.flat FV.gone)))),FV.own none (FV.xs (OV.fv (List.headD (Prod.snd r19) (OV.flat FV.gone)))) (FV.sp (OV.fv (List.headD (Prod.snd r19) (OV.flat FV.gone))))]]) fun r20 => needB (okOs Try.prog [4] [] (Prod.fst r20)) <|
 ifB ((PV.toB (FV.pv (OV.fv (List.headD (List.tail (Prod.fst r15)) (OV.flat FV.gone))))) == (PV.toB (FV.pv (OV.fv (List.headD (List.tail (Prod.fst r16)) (OV.flat FV.gone))))))
 (some ([OV.flat (FV.val (PV.bool (PV.toB (FV.pv (OV.fv (List.headD (Prod.fst r19) (OV.flat FV.gone)))))))],[OV.cont .box [FV.val (PV.ptr (some 3) (PV.deref (FV.pv (List.headD (OV.cells (List.headD (Prod.snd r15) (OV.flat FV.gone))) FV.gone))))],OV.cont .box [FV.own (some 2) (FV.xs (List.headD (OV.cells (List.headD (Prod.snd r16) (OV.flat FV.gone))) FV.gone)) []],OV.flat FV.gone]))
 (some ([OV.flat (FV.val (PV.bool false))],[OV.cont .box [FV.val (PV.ptr (some 3) (PV.deref (FV.pv (List.headD (OV.cells (List.headD (Prod.snd r15) (OV.flat FV.gone))) FV.gone))))],OV.cont .box [FV.own (some 2) (FV.xs (List.headD (OV.cells (List.headD (Prod.snd r16) (OV.flat FV.gone))) FV.gone)) []],OV.flat FV.gone])))
 (callB (rec 36 [OV.cont .nest [FV.own none (FV.xs (OV.fv (List.headD (Prod.snd r18) (OV.flat FV.gone)))) (FV.sp (OV.fv (List.headD (Prod.snd r18) (OV.flat FV.gone)))),FV.own none (FV.xs (OV.fv (List.headD (Prod.fst r2) (OV.flat FV.gone)))) (FV.sp (OV.fv (List.headD (Prod.fst r2) (OV.flat FV.gone))))]]) fun r21 => needB (okOs Try.prog [4] [] (Prod.fst r21)) <|
 ifB ((PV.toB (FV.pv (OV.fv (List.headD (List.tail (Prod.fst r15)) (OV.flat FV.gone))))) == (PV.toB (FV.pv (OV.fv (List.headD (List.tail (Prod.fst r16)) (OV.flat FV.gone))))))
 (some ([OV.flat (FV.val (PV.bool false))],[OV.cont .box [FV.val (PV.ptr (some 3) (PV.deref (FV.pv (List.headD (OV.cells (List.headD (Prod.snd r15) (OV.flat FV.gone))) FV.gone))))],OV.cont .box [FV.own (some 2) (FV.xs (List.headD (OV.cells (List.headD (Prod.snd r16) (OV.flat FV.gone))) FV.gone)) []],OV.flat FV.gone]))
 (some ([OV.flat (FV.val (PV.bool false))],[OV.cont .box [FV.val (PV.ptr (some 3) (PV.deref (FV.pv (List.headD (OV.cells (List.headD (Prod.snd r15) (OV.flat FV.gone))) FV.gone))))],OV.cont .box [FV.own (some 2) (FV.xs (List.headD (OV.cells (List.headD (Prod.snd r16) (OV.flat FV.gone))) FV.gone)) []],OV.flat FV.gone]))))
 (callB (rec 36 [OV.cont .nest [FV.own none (FV.xs (OV.fv (List.headD (Prod.fst r15) (OV.flat FV.gone)))) []]]) fun r22 => needB (okOs Try.prog [4] [] (Prod.fst r22)) <|
 callB (rec 38 [OV.flat (FV.own none (FV.xs (OV.fv (List.headD (List.tail (Prod.snd r15)) (OV.flat FV.gone)))) (FV.sp (OV.fv (List.headD (List.tail (Prod.snd r15)) (OV.flat FV.gone))))),OV.flat (FV.val (PV.sl none a3))]) fun r23 => needB (okOs Try.prog [4] [] (Prod.fst r23)) <|
 needB (okOuts Try.prog [23,23] [.io .os,.ro] (Prod.snd r23)) <|
 ifB (PV.toB (FV.pv (OV.fv (List.headD (Prod.fst r23) (OV.flat FV.gone)))))
 (callB (rec 38 [OV.flat (FV.own none (FV.xs (OV.fv (List.headD (Prod.fst r2) (OV.flat FV.gone)))) (FV.sp (OV.fv (List.headD (Prod.fst r2) (OV.flat FV.gone))))),OV.flat (FV.val (PV.sl none a4))]) fun r24 => needB (okOs Try.prog [4] [] (Prod.fst r24)) <|
 needB (okOuts Try.prog [23,23] [.io .os,.ro] (Prod.snd r24)) <|
 callB (rec 36 [OV.cont .nest [FV.own none (FV.xs (OV.fv (List.headD (Prod.snd r23) (OV.flat FV.gone)))) (FV.sp (OV.fv (List.headD (Prod.snd r23) (OV.flat FV.gone)))),FV.own none (FV.xs (OV.fv (List.headD (Prod.snd r24) (OV.flat FV.gone)))) (FV.sp (OV.fv (List.headD (Prod.snd r24) (OV.flat FV.gone))))]]) fun r25 => needB (okOs Try.prog [4] [] (Prod.fst r25)) <|
 some ([OV.flat (FV.val (PV.bool false))],[OV.cont .box [FV.val (PV.ptr (some 3) (PV.deref (FV.pv (List.headD (OV.cells (List.headD (Prod.snd r15) (OV.flat FV.gone))) FV.gone))))],OV.cont .box [FV.own (some 2) (FV.xs (List.headD (OV.cells (List.headD (Prod.snd r16) (OV.flat FV.gone))) FV.gone)) []],OV.flat FV.gone]))
 (callB (rec 36 [OV.cont .nest [FV.own none (FV.xs (OV.fv (List.headD (Prod.snd r23) (OV.flat FV.gone)))) (FV.sp (OV.fv (List.headD (Prod.snd r23) (OV.flat FV.gone)))),FV.own none (FV.xs (OV.fv (List.headD (Prod.fst r2) (OV.flat FV.gone)))) (FV.sp (OV.fv (List.headD (Prod.fst r2) (OV.flat FV.gone))))]]) fun r26 => needB (okOs Try.prog [4] [] (Prod.fst r26)) <|
 some ([OV.flat (FV.val (PV.bool false))],[OV.cont .box [FV.val (PV.ptr (some 3) (PV.deref (FV.pv (List.headD (OV.cells (List.headD (Prod.snd r15) (OV.flat FV.gone))) FV.gone))))],OV.cont .box [FV.own (some 2) (FV.xs (List.headD (OV.cells (List.headD (Prod.snd r16) (OV.flat FV.gone))) FV.gone)) []],OV.flat FV.gone]))))
 (ifB (a2 == (3 : Int))
 (callB (rec 10 [OV.cont .box [FV.val (PV.ptr (some 3) a0)],OV.flat (FV.val (PV.agg [PV.sl none a5,PV.sl none a6,PV.bool a7]))]) fun r27 => needB (okOs Try.prog [27] [.e] (Prod.fst r27)) <|
 needB (okOuts Try.prog [25,30] [.io (.b [false]),.ro] (Prod.snd r27)) <|
 callB (rec 37 [OV.cont .box [FV.own (some 2) a1 []],OV.flat (FV.val (PV.agg [PV.sl none a5,PV.sl none a6,PV.bool a7]))]) fun r28 => needB (okOs Try.prog [27] [.o] (Prod.fst r28)) <|
 needB (okOuts Try.prog [42,30] [.io (.b [true]),.ro] (Prod.snd r28)) <|
 callB (rec 12 [OV.flat (FV.val (PV.sl (some 2) (twos (List.map FV.frz (OV.cells (List.headD (Prod.fst r27) (OV.flat FV.gone))))))),OV.flat (FV.val (PV.sl (some 2) (FV.xs (OV.fv (List.headD (Prod.fst r28) (OV.flat FV.gone))))))]) fun r29 => needB (okOs Try.prog [4] [] (Prod.fst r29)) <|
 callB (rec 20 [OV.cont .ents (OV.cells (List.headD (Prod.fst r27) (OV.flat FV.gone)))]) fun r30 => needB (okOs Try.prog [] [] (Prod.fst r30)) <|
 callB (rec 38 [OV.flat (FV.own none (FV.xs (OV.fv (List.headD (Prod.fst r1) (OV.flat FV.gone)))) (FV.sp (OV.fv (List.headD (Prod.fst r1) (OV.flat FV.gone))))),OV.flat (FV.val (PV.sl none a3))]) fun r31 => needB (okOs Try.prog [4] [] (Prod.fst r31)) <|
 needB (okOuts Try.prog [23,23] [.io .os,.ro] (Prod.snd r31)) <|
 ifB (PV.toB (FV.pv (OV.fv (List.headD (Prod.fst r31) (OV.flat FV.gone)))))
 (callB (rec 38 [OV.flat (FV.own none (FV.xs (OV.fv (List.headD (Prod.fst r2) (OV.flat FV.gone)))) (FV.sp (OV.fv (List.headD (Prod.fst r2) (OV.flat FV.gone))))),OV.flat (FV.val (PV.sl none a4))]) fun r32 => needB (okOs Try.prog [4] [] (Prod.fst r32)) <|
 needB (okOuts Try.prog [23,23] [.io .os,.ro] (Prod.snd r32)) <|
 callB (rec 36 [OV.cont .nest [FV.own none (FV.xs (OV.fv (List.headD (Prod.snd r31) (OV.flat FV.gone)))) (FV.sp (OV.fv (List.headD (Prod.snd r31) (OV.flat FV.gone)))),FV.own none (FV.xs (OV.fv (List.headD (Prod.snd r32) (OV.flat FV.gone)))) (FV.sp (OV.fv (List.headD (Prod.snd r32) (OV.flat FV.gone))))]]) fun r33 => needB (okOs Try.prog [4] [] (Prod.fst r33)) <|
 ifB (PV.toB (FV.pv (OV.fv (List.headD (Prod.fst r29) (OV.flat FV.gone)))))
 (some ([OV.flat (FV.val (PV.bool (PV.toB (FV.pv (OV.fv (List.headD (Prod.fst r32) (OV.flat FV.gone)))))))],[OV.cont .box [FV.val (PV.ptr (some 3) (PV.deref (FV.pv (List.headD (OV.cells (List.headD (Prod.snd r27) (OV.flat FV.gone))) FV.gone))))],OV.cont .box [FV.own (some 2) (FV.xs (List.headD (OV.cells (List.headD (Prod.snd r28) (OV.flat FV.gone))) FV.gone)) []],OV.flat FV.gone]))
 (some ([OV.flat (FV.val (PV.bool false))],[OV.cont .box [FV.val (PV.ptr (some 3) (PV.deref (FV.pv (List.headD (OV.cells (List.headD (Prod.snd r27) (OV.flat FV.gone))) FV.gone))))],OV.cont .box [FV.own (some 2) (FV.xs (List.headD (OV.cells (List.headD (Prod.snd r28) (OV.flat FV.gone))) FV.gone)) []],OV.flat FV.gone])))
 (callB (rec 36 [OV.cont .nest [FV.own none (FV.xs (OV.fv (List.headD (Prod.snd r31) (OV.flat FV.gone)))) (FV.sp (OV.fv (List.headD (Prod.snd r31) (OV.flat FV.gone)))),FV.own none (FV.xs (OV.fv (List.headD (Prod.fst r2) (OV.flat FV.gone)))) (FV.sp (OV.fv (List.headD (Prod.fst r2) (OV.flat FV.gone))))]]) fun r34 => needB (okOs Try.prog [4] [] (Prod.fst r34)) <|
 ifB (PV.toB (FV.pv (OV.fv (List.headD (Prod.fst r29) (OV.flat FV.gone)))))
 (some ([OV.flat (FV.val (PV.bool false))],[OV.cont .box [FV.val (PV.ptr (some 3) (PV.deref (FV.pv (List.headD (OV.cells (List.headD (Prod.snd r27) (OV.flat FV.gone))) FV.gone))))],OV.cont .box [FV.own (some 2) (FV.xs (List.headD (OV.cells (List.headD (Prod.snd r28) (OV.flat FV.gone))) FV.gone)) []],OV.flat FV.gone]))
 (some ([OV.flat (FV.val (PV.bool false))],[OV.cont .box [FV.val (PV.ptr (some 3) (PV.deref (FV.pv (List.headD (OV.cells (List.headD (Prod.snd r27) (OV.flat FV.gone))) FV.gone))))],OV.cont .box [FV.own (some 2) (FV.xs (List.headD (OV.cells (List.headD (Prod.snd r28) (OV.flat FV.gone))) FV.gone)) []],OV.flat FV.gone]))))
 (callB (rec 38 [OV.flat (FV.own none (FV.xs (OV.fv (List.headD (Prod.fst r1) (OV.flat FV.gone)))) (FV.sp (OV.fv (List.headD (Prod.fst r1) (OV.flat FV.gone))))),OV.flat (FV.val (PV.sl none a3))]) fun r35 => needB (okOs Try.prog [4] [] (Prod.fst r35)) <|
 needB (okOuts Try.prog [23,23] [.io .os,.ro] (Prod.snd r35)) <|
 ifB (PV.toB (FV.pv (OV.fv (List.headD (Prod.fst r35) (OV.flat FV.gone)))))
 (callB (rec 38 [OV.flat (FV.own none (FV.xs (OV.fv (List.headD (Prod.fst r2) (OV.flat FV.gone)))) (FV.sp (OV.fv (List.headD (Prod.fst r2) (OV.flat FV.gone))))),OV.flat (FV.val (PV.sl none a4))]) fun r36 => needB (okOs Try.prog [4] [] (Prod.fst r36)) <|
 needB (okOuts Try.prog [23,23] [.io .os,.ro] (Prod.snd r36)) <|
 callB (rec 36 [OV.cont .nest [FV.own none (FV.xs (OV.fv (List.headD (Prod.snd r35) (OV.flat FV.gone)))) (FV.sp (OV.fv (List.headD (Prod.snd r35) (OV.flat FV.gone)))),FV.own none (FV.xs (OV.fv (List.headD (Prod.snd r36) (OV.flat FV.gone)))) (FV.sp (OV.fv (List.headD (Prod.snd r36) (OV.flat FV.gone))))]]) fun r37 => needB (okOs Try.prog [4] [] (Prod.fst r37)) <|
 some ([OV.flat (FV.val (PV.bool (PV.toB (FV.pv (OV.fv (List.headD (Prod.fst r36) (OV.flat FV.gone)))))))],[OV.cont .box [FV.val (PV.ptr (some 3) a0)],OV.cont .box [FV.own (some 2) a1 []],OV.flat FV.gone]))
 (callB (rec 36 [OV.cont .nest [FV.own none (FV.xs (OV.fv (List.headD (Prod.snd r35) (OV.flat FV.gone)))) (FV.sp (OV.fv (List.headD (Prod.snd r35) (OV.flat FV.gone)))),FV.own none (FV.xs (OV.fv (List.headD (Prod.fst r2) (OV.flat FV.gone)))) (FV.sp (OV.fv (List.headD (Prod.fst r2) (OV.flat FV.gone))))]]) fun r38 => needB (okOs Try.prog [4] [] (Prod.fst r38)) <|
 some ([OV.flat (FV.val (PV.bool false))],[OV.cont .box [FV.val (PV.ptr (some 3) a0)],OV.cont .box [FV.own (some 2) a1 []],OV.flat FV.gone]))))))
theorem f19_vestrylaw14_act_eq (rec : Rec) (n : Nat) (a0 : PV) (a1 : List PV) (a2 : Int) (a3 : List PV) (a4 : List PV) (a5 : List PV) (a6 : List PV) (a7 : Bool) : callBody C rec n 19 [OV.cont .box [FV.val (PV.ptr (some 3) a0)],OV.cont .box [FV.own (some 2) a1 []],OV.flat (FV.val (PV.agg [PV.int .i64 a2,PV.sl none a3,PV.sl none a4,PV.sl none a5,PV.sl none a6,PV.bool a7]))] = f19_vestrylaw14_act rec n a0 a1 a2 a3 a4 a5 a6 a7:=by kernel_rfl
end Go.Proofs.Ytnieankaikhmnaa.P2

open Go Go.Ev
set_option maxRecDepth 100000
namespace Go.Proofs.Ytnieankaikhmnaa.P3
def live : Nat → List (List Nat)
 | 2 => [[]]
 | 3 => [[0,1,2,3],[0,1,2,3],[0,1,2,3,9],[1,2,3,9,10],[],[1,2,3,10],[1,2,10],[1,2,11],[1,2,3,10],[1,2,3,10,12],[1,3,10,12,13],[1,3,10,12,13,14],[1,3,10,12,13,14,15],[1,3,12,13,14,15,16],[1,3,12,13,14,15,16,17],[1,3,12,13,14,15,16,17],[1,3,12,13,14,15,16,17],[1,3,12,13,14,15,16,17],[],[1,3,12,13,14,15,16,17],[12,13,14,15]]
 | 4 => [[0,1,2,3],[0,1,2,3],[0,1,2,3,9],[1,2,3,9,10],[],[1,2,3,10],[1,2,3,10,11,12],[1,2,3,10,11,12,13],[1,2,3,10,11,12,13,15],[1,2,3,10,11,12,13,15,16],[1,2,3,10,11,12,13,15,16,17,18],[],[1,3,10,11,12],[1,3,10,11,12,19],[1,3,10,11,12,19,21],[1,3,10,11,12,19,21,22,23],[1,3,11,12,19,21,22,23,24]]
 | 5 => [[0],[0],[0,3],[0,3,4],[],[0,4],[0,4,5],[0,4,5,6],[0,4,5,6],[0,4,5,6],[0,4,5,6],[0,4,5,6,7],[],[0,4,5,6,7],[0,5,6,7],[0,4,5,6],[0,4,5,6,8],[],[4,5],[4,5,9],[4,5,9,10],[4,5,10]]
 | 6 => [[0,1,2],[0,1,2],[0,1,2,7],[1,2,7,8],[],[1,2,8],[1,2,8,9],[],[1,2,8,9],[1,2,8,9,10],[1,2,8,9,10,11],[1,2,8,9,10,11],[1,2,8,9,10,11],[1,2,8,9,10,11],[1,2,8,9,10,11],[2,8,9,10],[],[2,8,9],[2,8,9,12],[2,8,9,12,13],[2,8,9,12,13],[2,8,9,12,13],[2,8,9,12,13],[2,8,9,12,13],[9,12]]
 | 7 => [[0],[0],[0,3],[0,3,4],[],[0,4],[0,4,5],[0,4,5],[0,4,5],[0,4,5],[0,4,5],[0,4,5],[0,4,5],[0,4,5,6],[0,4,5,6,7],[0,4,5,6,7,8],[0,4,5,6,7,8,9],[0,4,5,6,7,8,9],[0,4,5,6,7,8,9],[],[0,4,5,6,7,8,9],[0,4,5,6,7,8],[0,4,5,6,7,8,10],[0,4,5,6,7,8,10],[0,4,5,6,7,8,10],[],[0,4,5,6,7,8],[],[0,4,5,7,8],[],[4]]
 | 8 => [[],[],[1],[],[1],[1,2],[1,2],[1,2],[],[1],[1,3],[1,3,4,5]]
 | 9 => [[0],[0],[0,3],[0,3,4],[0,3,4],[0,3,4],[0,3,4],[0,3,4],[0,3,4],[3]]
 | 10 => [[0,1,2,6,7,8,9,15,16,17,18,19,20,21,22,23,24,25,26,27,28,29,30,31,32,33,34,35,36,37,38,39,40,41,42,43,44,45,46,47,48,49,50],[0,1,2,3,4,6,7,8,9,15,16,17,18,19,20,21,22,23,24,25,26,27,28,29,30,31,32,33,34,35,36,37,38,39,40,41,42,43,44,45,46,47,48,49,50],[0,1,2,3,4,5,6,7,8,9,15,16,17,18,19,20,21,22,23,24,25,26,27,28,29,30,31,32,33,34,35,36,37,38,39,40,41,42,43,44,45,46,47,48,49,50],[0],[0],[0],[0],[0],[0],[0],[0,5]]
 | 11 => [[0,1],[1,2]]
 | 12 => [[0,1],[0,1],[],[0,1],[0,1,5],[0,1,5],[0,1,5],[],[]]
 | 13 => [[0,1],[0,1],[0,6,7]]
 | 14 => [[0],[0]]
 | 15 => [[0,1,2],[0,1,2],[0,1,2,8],[0,8,9],[0,8,9],[0,8,9],[0,8]]
 | 16 => [[0,1],[0,1],[0,1,6],[0],[0,1],[0],[0],[0]]
 | 17 => [[],[]]
 | 18 => [[0],[0]]
 | 19 => [[0,1,2],[0,1,5],[0,1,5,7],[0,1,5,7,8],[0,1,5,7,8,9],[0,1,5,7,8,9,23],[0,1,5,7,8],[0,1,5,7,8,9,23],[0,1,5,7,8],[0,1,5,7,8,9,23],[0,1,5,7,8],[0,1,5,7,8,10,11],[0,1,5,7,8,10,11,12,13],[0,1,5,7,8,9,10],[0,1,5,7,8,9,23],[0,1,5,7,8],[0,1,5,7,8,14],[0,1,5,7,8,9,14],[0,1,5,7,8,9],[0,1,7,8,9,15],[0,1,9,15]]
 | 20 => [[0],[0,2],[0,2],[0,2],[0,2]]
 | 21 => [[0,1,4,10,11,12,13,14,15,16,17,18,19],[0,1,2,4,10,11,12,13,14,15,16,17,18,19],[0,1,2,3,4,10,11,12,13,14,15,16,17,18,19],[0],[0],[0,3]]
 | 22 => [[0],[0],[0,3],[0,3,4],[0,3,4],[0,3,4],[0,3]]
 | 23 => [[0],[1]]
 | 24 => [[0,1],[0,1]]
 | 25 => [[0],[0],[0,3],[3,6,7,8],[3,6,7,8],[3,5,6,7,8],[3,6,7,8],[3]]
 | 26 => [[0,1],[0,1,4],[0,1,4,6],[0,1,4,6],[0,1,4,6],[0,4,5,6,7],[0,4,5,6,7],[0,4,5]]
 | 27 => [[0],[0],[],[0]]
 | 28 => [[0,1],[0,3],[0,3],[0,3,5,6],[3,5,6,7],[3,5,7],[3,5,7],[7],[0,3],[0,3,8]]
 | 29 => [[0],[0],[0,3],[3,9,10,11],[3,9,10,11],[3,5,9,10,11],[3,9,10,11],[3]]
 | 30 => [[0,1],[0,1],[0,1],[0,5],[0,1],[0,1,7],[1,7,8],[7,8],[7,8],[7,8],[8]]
 | 31 => [[0],[0]]
 | 32 => [[0],[0],[0,3],[0,3],[3]]
 | 33 => [[0,1,2],[0,1,2],[0,1,2,7],[0,1,2,7,8],[0,1,2,7,8,9],[0,1,2,7,8,9],[0,7,8,9],[0,7,8,9],[0,7,8,9],[0,8]]
 | 34 => [[0,1],[0,1],[0,1,5],[0,5,6],[0],[0,5],[0,5,7],[0,5,7],[0]]
 | 35 => [[0,1],[0,1],[0,1,6],[0,6,7],[0],[0,6]]
 | 36 => [[0],[0],[0,3],[0,3],[0,3],[0,3,4],[0,3,4,5],[0,3,4,5],[0,3,4,5],[0],[0,6],[0,6],[0,6],[0,6,7],[0,6,7,8],[0,6,7,8],[0,6,7,8],[],[]]
 | 37 => [[0,1],[0,3],[0,3,5],[0,3,5,6],[0,3,5,6],[0,3,5,6],[0,3,5,6,7],[0,3,5,6],[0,5]]
 | 38 => [[0,1],[0,1]]
 | 39 => [[0,1],[0,3],[0,3],[0,3,4],[0,3,4],[0,3,4,5],[0,3,4,5],[0,3,4,5],[0,3,4]]
 | 40 => [[0,1,2],[0,1,2],[0,1,2,8],[0,1,2,8,9,10],[0,1,2,8,9,10],[0,1,2,8,9,10,11],[0,1,2,8,10,11],[0,1,2,8,9,11],[0,1,2,8,9]]
 | 41 => [[0,1],[1,2]]
 | 42 => [[0,1],[0,1]]
 | 43 => [[0,1],[0,1],[0,1,5],[0,1,5],[5]]
 | 44 => [[0],[0],[],[0]]
 | 45 => [[0,1,2],[0,1,2],[0,1,2],[0,1,2,7],[0],[0,1,2,7],[0,1,2,7,8],[0,2],[0,1,2,7,8],[0,1,2,7,8],[0,1,2,7,9],[0,1,7,9],[9],[0,1,2,7,8],[0,1,2,7,8],[0,1,2,7],[0,1,2],[0],[0,1,2,7,8],[0,1,7],[0]]
 | 46 => [[0],[0],[0],[0],[0,3]]
 | 47 => [[0],[0],[0],[0],[0,3]]
 | 48 => [[0,1,2,3],[0,1,2,3],[0,1,2,3],[0,1,3],[0,1,2,3],[0,1,3],[0,9],[0,9],[9],[0,1,2,3],[0,1,2,3,10],[0,1,2,3,10],[0,1,2,3,11],[0,1,2,3,11],[11],[0,1,2,3,10],[0,1,2,3,10,12],[0,1,2,3,10,12],[0,1,2,3,10,12],[0,10,12],[12],[0,1,2,3,12],[0,1,2,3,12],[1,3,12],[12],[0,1,2,3,12],[0,1,2,3,12,13],[0,1,2,3,12,13],[0,1,3,12,13],[1,12,13],[12],[0,1,2,3,12,13],[0,1,2,3,12,13],[1,2,3,12,13],[1,12,13],[12],[0,1,2,3,12],[1,3,12,14],[1,3,12,14],[12]]
 | 49 => [[0],[0],[],[0]]
 | 50 => [[0,1,2],[0,1,2],[0,1,2],[0],[0,1,2],[0,1,2,7],[0,7],[0]]
 | 51 => [[0],[0]]
 | 52 => [[0,1],[0,1],[0,1],[0,1]]
 | 53 => [[0,1],[0,1],[0,1,5],[0,1,5],[0,5]]
 | 54 => [[0,1,2],[0,1,2]]
 | 55 => [[0],[0]]
 | 57 => [[0],[0],[0],[0]]
 | 59 => [[0,1]]
 | 60 => [[0,1,2],[0,1,2],[0,1,2],[0,1,2,7],[0],[0,1,2,7],[0,1,2,7,8],[0,2],[0,1,2,7,8],[0,1,2,7,8],[0,1,2,7,9],[0,1,7,9],[9],[0,1,2,7,8],[0,1,2,7,8],[0,1,2,7],[0,1,2],[0],[0,1,2,7,8],[0,1,7],[0]]
 | 62 => [[0,1]]
 | 63 => [[0,1],[0,1,4],[0,4,5],[0,4,5,10,11],[0,4,5,10,11],[0,4,5,6,10,11],[6],[0,4,5,10,11],[4]]
 | 64 => [[0],[0],[0,3],[0,3,9,10,11],[0,3,9,10,11],[0,3,5,9,10,11],[0,3,9,10,11],[0,3,9,10,11],[0,3,9,10,11],[0,3],[0,6],[6,25,26,27],[6,25,26,27],[6,8,25,26,27],[6,25,26,27],[6]]
 | 65 => [[0],[0],[0,3],[0,3,9,10,11],[0,3,9,10,11],[0,3,5,9,10,11],[0,3,9,10,11],[0,3,9,10,11],[0,3,9,10,11],[0,3],[0,6],[6,25,26,27],[6,25,26,27],[6,8,25,26,27],[6,25,26,27],[6]]
 | 66 => [[0,1],[0,1],[0]]
 | 67 => [[0,1],[0,1],[0]]
 | 68 => [[0,1],[0,1],[0,1],[0,1],[0,1],[0,1],[0]]
 | 69 => [[0,1],[0,1],[0,1],[0,1],[0,1],[0,1],[0]]
 | 70 => [[0],[0,2,3],[0,2,3],[0,2,3]]
 | 71 => [[0],[0,2,3],[0,2,3],[0,2,3]]
 | _ => []
def mode : Nat → List Md
 | 10 => [.io (.b [false]),.ro]
 | 13 => [.io (.b [false]),.ro]
 | 14 => [.io (.b [false])]
 | 15 => [.io (.b [false]),.ro,.ro]
 | 16 => [.io (.b [false]),.ro]
 | 18 => [.io (.b [false])]
 | 19 => [.io (.b [false]),.io (.b [true]),.ro]
 | 20 => [.tk]
 | 21 => [.io (.b [false])]
 | 22 => [.io (.b [false])]
 | 26 => [.io (.b [false]),.ro]
 | 33 => [.io (.b [true]),.ro,.ro]
 | 34 => [.io (.b [true]),.ro]
 | 35 => [.io (.b [true]),.ro]
 | 36 => [.tk]
 | 37 => [.io (.b [true]),.ro]
 | 38 => [.io .os,.ro]
 | 44 => [.ro]
 | 45 => [.tk,.ro,.tk]
 | 48 => [.tk,.ro,.ro,.tk]
 | 49 => [.ro]
 | 50 => [.tk,.ro,.ro]
 | 53 => [.io (.b [true]),.ro]
 | 54 => [.io (.b [true]),.ro,.ro]
 | 68 => [.tk,.ro]
 | 69 => [.tk,.ro]
 | _ => []
def res : Nat → List RK
 | 9 => [.b [false]]
 | 10 => [.e]
 | 13 => [.o,.v]
 | 17 => [.b [false]]
 | 18 => [.b [false]]
 | 25 => [.o]
 | 27 => [.o]
 | 28 => [.o]
 | 32 => [.os]
 | 35 => [.o,.v]
 | 37 => [.o]
 | 44 => [.o]
 | 45 => [.o]
 | 46 => [.o]
 | 47 => [.o]
 | 48 => [.o]
 | 49 => [.o]
 | 50 => [.o]
 | 52 => [.o]
 | 55 => [.o]
 | 64 => [.o]
 | 65 => [.o]
 | 68 => [.o]
 | 69 => [.o]
 | _ => []
def frz : Nat → List Bool
 | 29 => [true]
 | 31 => [true]
 | _ => []
noncomputable def prim : Nat → Option (List OV → Option (List OV × List OV))
 | 5 => none
 | 10 => some T14.primRangeE
 | 20 => some T14.primSpoil
 | 19 => some (pcall Ytnieankaikhmnaa.P2.C 4000 19)
 | g => some (pcall Ytnieankaikhmnaa.C 5000 g)
noncomputable def C : Ctx:={ P:=Try.prog,mode:=mode,res:=res,live:=live,prim:=prim,frz:=frz }
theorem names : namesOk C.P = true:=by kernel_rfl
end Go.Proofs.Ytnieankaikhmnaa.P3

open Go Go.Ev
set_option linter.unusedVariables false
set_option maxRecDepth 100000
namespace Go.Proofs.Ytnieankaikhmnaa.P3
noncomputable def f5_vestrylaw14_BtreePlays.l0.step (rec : Rec) (n : Nat) (self_l0 : List PV → PV → List PV → Int → Option (List OV × List OV)) (x0 : List PV) (x1 : PV) (x2 : List PV) (x3 : Int) : Option (List OV × List OV) :=
 ifB (decide (x3 < ((List.length x0 : Nat) : Int)))
 (ifB (decide (x3 < (80 : Int)))
 (needB (decide ((0 : Int) ≤ x3)) <|
 needB (decide (x3 < ((List.length x0 : Nat) : Int))) <|
 needB (hasT Try.prog 46 (nthP x0 (Int.toNat x3))) <|
 ifB (PV.toI (List.headD (PV.cells (nthP x0 (Int.toNat x3))) PV.undef) == (4 : Int))
 (callB (rec 18 [OV.cont .box [FV.val (PV.ptr (some 3) x1)]]) fun r3 => needB (okOs Try.prog [25] [.b [false]] (Prod.fst r3)) <|
 needB (okOuts Try.prog [25] [.io (.b [false])] (Prod.snd r3)) <|
 needB (decide ((0 : Int) ≤ x3)) <|
 needB (decide (x3 < ((List.length x0 : Nat) : Int))) <|
 needB (hasT Try.prog 46 (nthP x0 (Int.toNat x3))) <|
 needB (decide ((0 : Int) ≤ x3)) <|
 needB (decide (x3 < ((List.length x0 : Nat) : Int))) <|
 needB (hasT Try.prog 46 (nthP x0 (Int.toNat x3))) <|
 callB (rec 15 [OV.cont .box [FV.val (PV.ptr (some 3) (PV.deref (FV.pv (List.headD (OV.cells (List.headD (Prod.snd r3) (OV.flat FV.gone))) FV.gone))))],OV.flat (FV.val (PV.sl none (PV.toL (List.headD (List.tail (PV.cells (nthP x0 (Int.toNat x3)))) PV.undef)))),OV.flat (FV.val (PV.sl none (PV.toL (List.headD (List.tail (List.tail (PV.cells (nthP x0 (Int.toNat x3))))) PV.undef))))]) fun r4 => needB (okOs Try.prog [4] [] (Prod.fst r4)) <|
 needB (okOuts Try.prog [25,23,23] [.io (.b [false]),.ro,.ro] (Prod.snd r4)) <|
 needB (decide ((0 : Int) ≤ x3)) <|
 needB (decide (x3 < ((List.length x0 : Nat) : Int))) <|
 needB (hasT Try.prog 46 (nthP x0 (Int.toNat x3))) <|
 callB (rec 19 [OV.cont .box [FV.val (PV.ptr (some 3) (PV.deref (FV.pv (List.headD (OV.cells (List.headD (Prod.fst r3) (OV.flat FV.gone))) FV.gone))))],OV.cont .box [FV.own (some 2) x2 []],OV.flat (FV.val (PV.agg [PV.int .i64 (PV.toI (List.headD (PV.cells (nthP x0 (Int.toNat x3))) PV.undef)),PV.sl none (PV.toL (List.headD (List.tail (PV.cells (nthP x0 (Int.toNat x3)))) PV.undef)),PV.sl none (PV.toL (List.headD (List.tail (List.tail (PV.cells (nthP x0 (Int.toNat x3))))) PV.undef)),PV.sl none (PV.toL (List.headD (List.tail (List.tail (List.tail (PV.cells (nthP x0 (Int.toNat x3)))))) PV.undef)),PV.sl none (PV.toL (List.headD (List.tail (List.tail (List.tail (List.tail (PV.cells (nthP x0 (Int.toNat x3))))))) PV.undef)),PV.bool (PV.toB (List.headD (List.tail (List.tail (List.tail (List.tail (List.tail (PV.cells (nthP x0 (Int.toNat x3)))))))) PV.undef))]))]) fun r5 => needB (okOs Try.prog [4] [] (Prod.fst r5)) <|
 needB (okOuts Try.prog [25,42,46] [.io (.b [false]),.io (.b [true]),.ro] (Prod.snd r5)) <|
 ifB (!(PV.toB (FV.pv (OV.fv (List.headD (Prod.fst r5) (OV.flat FV.gone))))))
 (some ([OV.flat (FV.val (PV.bool false))],[]))
 (callB (rec 14 [OV.cont .box [FV.val (PV.ptr (some 3) (PV.deref (FV.pv (List.headD (OV.cells (List.headD (Prod.snd r5) (OV.flat FV.gone))) FV.gone))))]]) fun r6 => needB (okOs Try.prog [3] [] (Prod.fst r6)) <|
 needB (okOuts Try.prog [25] [.io (.b [false])] (Prod.snd r6)) <|
 ifB (PV.toI (FV.pv (OV.fv (List.headD (Prod.fst r6) (OV.flat FV.gone)))) != ((List.length (FV.xs (List.headD (OV.cells (List.headD (List.tail (Prod.snd r5)) (OV.flat FV.gone))) FV.gone)) : Nat) : Int))
 (some ([OV.flat (FV.val (PV.bool false))],[]))
 (self_l0 x0 (PV.deref (FV.pv (List.headD (OV.cells (List.headD (Prod.snd r6) (OV.flat FV.gone))) FV.gone))) (FV.xs (List.headD (OV.cells (List.headD (List.tail (Prod.snd r5)) (OV.flat FV.gone))) FV.gone)) (IntKind.wrap .i64 (x3 + (1 : Int))))))
 (needB (decide ((0 : Int) ≤ x3)) <|
 needB (decide (x3 < ((List.length x0 : Nat) : Int))) <|
 needB (hasT Try.prog 46 (nthP x0 (Int.toNat x3))) <|
 callB (rec 19 [OV.cont .box [FV.val (PV.ptr (some 3) x1)],OV.cont .box [FV.own (some 2) x2 []],OV.flat (FV.val (PV.agg [PV.int .i64 (PV.toI (List.headD (PV.cells (nthP x0 (Int.toNat x3))) PV.undef)),PV.sl none (PV.toL (List.headD (List.tail (PV.cells (nthP x0 (Int.toNat x3)))) PV.undef)),PV.sl none (PV.toL (List.headD (List.tail (List.tail (PV.cells (nthP x0 (Int.toNat x3))))) PV.undef)),PV.sl none (PV.toL (List.headD (List.tail (List.tail (List.tail (PV.cells (nthP x0 (Int.toNat x3)))))) PV.undef)),PV.sl none (PV.toL (List.headD (List.tail (List.tail (List.tail (List.tail (PV.cells (nthP x0 (Int.toNat x3))))))) PV.undef)),PV.bool (PV.toB (List.headD (List.tail (List.tail (List.tail (List.tail (List.tail (PV.cells (nthP x0 (Int.toNat x3)))))))) PV.undef))]))]) fun r7 => needB (okOs Try.prog [4] [] (Prod.fst r7)) <|
 needB (okOuts Try.prog [25,42,46] [.io (.b [false]),.io (.b [true]),.ro] (Prod.snd r7)) <|
 ifB (!(PV.toB (FV.pv (OV.fv (List.headD (Prod.fst r7) (OV.flat FV.gone))))))
 (some ([OV.flat (FV.val (PV.bool false))],[]))
 (callB (rec 14 [OV.cont .box [FV.val (PV.ptr (some 3) (PV.deref (FV.pv (List.headD (OV.cells (List.headD (Prod.snd r7) (OV.flat FV.gone))) FV.gone))))]]) fun r8 => needB (okOs Try.prog [3] [] (Prod.fst r8)) <|
 needB (okOuts Try.prog [25] [.io (.b [false])] (Prod.snd r8)) <|
 ifB (PV.toI (FV.pv (OV.fv (List.headD (Prod.fst r8) (OV.flat FV.gone)))) != ((List.length (FV.xs (List.headD (OV.cells (List.headD (List.tail (Prod.snd r7)) (OV.flat FV.gone))) FV.gone)) : Nat) : Int))
 (some ([OV.flat (FV.val (PV.bool false))],[]))
 (self_l0 x0 (PV.deref (FV.pv (List.headD (OV.cells (List.headD (Prod.snd r8) (OV.flat FV.gone))) FV.gone))) (FV.xs (List.headD (OV.cells (List.headD (List.tail (Prod.snd r7)) (OV.flat FV.gone))) FV.gone)) (IntKind.wrap .i64 (x3 + (1 : Int)))))))
 (callB (rec 10 [OV.cont .box [FV.val (PV.ptr (some 3) x1)],OV.flat (FV.val (PV.agg [PV.sl none [],PV.sl none [],PV.bool false]))]) fun r9 => needB (okOs Try.prog [27] [.e] (Prod.fst r9)) <|
 needB (okOuts Try.prog [25,30] [.io (.b [false]),.ro] (Prod.snd r9)) <|
 callB (rec 12 [OV.flat (FV.val (PV.sl (some 2) (twos (List.map FV.frz (OV.cells (List.headD (Prod.fst r9) (OV.flat FV.gone))))))),OV.flat (FV.val (PV.sl (some 2) x2))]) fun r10 => needB (okOs Try.prog [4] [] (Prod.fst r10)) <|
 callB (rec 20 [OV.cont .ents (OV.cells (List.headD (Prod.fst r9) (OV.flat FV.gone)))]) fun r11 => needB (okOs Try.prog [] [] (Prod.fst r11)) <|
 ifB (PV.toB (FV.pv (OV.fv (List.headD (Prod.fst r10) (OV.flat FV.gone)))))
 (callB (rec 10 [OV.cont .box [FV.val (PV.ptr (some 3) (PV.deref (FV.pv (List.headD (OV.cells (List.headD (Prod.snd r9) (OV.flat FV.gone))) FV.gone))))],OV.flat (FV.val (PV.agg [PV.sl none [],PV.sl none [],PV.bool false]))]) fun r12 => needB (okOs Try.prog [27] [.e] (Prod.fst r12)) <|
 needB (okOuts Try.prog [25,30] [.io (.b [false]),.ro] (Prod.snd r12)) <|
 callB (rec 12 [OV.flat (FV.val (PV.sl (some 2) (twos (List.map FV.frz (OV.cells (List.headD (Prod.fst r12) (OV.flat FV.gone))))))),OV.flat (FV.val (PV.sl (some 2) x2))]) fun r13 => needB (okOs Try.prog [4] [] (Prod.fst r13)) <|
 some ([OV.flat (FV.val (PV.bool (PV.toB (FV.pv (OV.fv (List.headD (Prod.fst r13) (OV.flat FV.gone)))))))],[]))
 (some ([OV.flat (FV.val (PV.bool false))],[]))))
 (callB (rec 10 [OV.cont .box [FV.val (PV.ptr (some 3) x1)],OV.flat (FV.val (PV.agg [PV.sl none [],PV.sl none [],PV.bool false]))]) fun r14 => needB (okOs Try.prog [27] [.e] (Prod.fst r14)) <|
 needB (okOuts Try.prog [25,30] [.io (.b [false]),.ro] (Prod.snd r14)) <|
 callB (rec 12 [OV.flat (FV.val (PV.sl (some 2) (twos (List.map FV.frz (OV.cells (List.headD (Prod.fst r14) (OV.flat FV.gone))))))),OV.flat (FV.val (PV.sl (some 2) x2))]) fun r15 => needB (okOs Try.prog [4] [] (Prod.fst r15)) <|
 callB (rec 20 [OV.cont .ents (OV.cells (List.headD (Prod.fst r14) (OV.flat FV.gone)))]) fun r16 => needB (okOs Try.prog [] [] (Prod.fst r16)) <|
 ifB (PV.toB (FV.pv (OV.fv (List.headD (Prod.fst r15) (OV.flat FV.gone)))))
 (callB (rec 10 [OV.cont .box [FV.val (PV.ptr (some 3) (PV.deref (FV.pv (List.headD (OV.cells (List.headD (Prod.snd r14) (OV.flat FV.gone))) FV.gone))))],OV.flat (FV.val (PV.agg [PV.sl none [],PV.sl none [],PV.bool false]))]) fun r17 => needB (okOs Try.prog [27] [.e] (Prod.fst r17)) <|
 needB (okOuts Try.prog [25,30] [.io (.b [false]),.ro] (Prod.snd r17)) <|
 callB (rec 12 [OV.flat (FV.val (PV.sl (some 2) (twos (List.map FV.frz (OV.cells (List.headD (Prod.fst r17) (OV.flat FV.gone))))))),OV.flat (FV.val (PV.sl (some 2) x2))]) fun r18 => needB (okOs Try.prog [4] [] (Prod.fst r18)) <|
 some ([OV.flat (FV.val (PV.bool (PV.toB (FV.pv (OV.fv (List.headD (Prod.fst r18) (OV.flat FV.gone)))))))],[]))
 (some ([OV.flat (FV.val (PV.bool false))],[])))
noncomputable def f5_vestrylaw14_BtreePlays.l0 (rec : Rec) (n : Nat) : Nat → List PV → PV → List PV → Int → Option (List OV × List OV)
 | 0,_,_,_,_ => none
 | m + 1,x0,x1,x2,x3 => f5_vestrylaw14_BtreePlays.l0.step rec n (f5_vestrylaw14_BtreePlays.l0 rec n m) x0 x1 x2 x3
theorem f5_vestrylaw14_BtreePlays.l0_eq (rec : Rec) (n : Nat) : ∀ (m : Nat) (x0 : List PV) (x1 : PV) (x2 : List PV) (x3 : Int),loopAt C rec n 5 [1,1,1,1,1,0,1,0] [] m [(0,SV.home (OV.flat (FV.val (PV.sl (some 6) x0)))),(4,SV.home (OV.cont .box [FV.val (PV.ptr (some 3) x1)])),(5,SV.home (OV.cont .box [FV.own (some 2) x2 []])),(6,SV.home (OV.flat (FV.val (PV.int .i64 x3))))] = f5_vestrylaw14_BtreePlays.l0 rec n m x0 x1 x2 x3
 | 0,x0,x1,x2,x3 => by kernel_rfl
 | m + 1,x0,x1,x2,x3 => by
   have ih : (fun x0 x1 x2 x3 => loopAt C rec n 5 [1,1,1,1,1,0,1,0] [] m [(0,SV.home (OV.flat (FV.val (PV.sl (some 6) x0)))),(4,SV.home (OV.cont .box [FV.val (PV.ptr (some 3) x1)])),(5,SV.home (OV.cont .box [FV.own (some 2) x2 []])),(6,SV.home (OV.flat (FV.val (PV.int .i64 x3))))]) = f5_vestrylaw14_BtreePlays.l0 rec n m:=funext fun x0 => funext fun x1 => funext fun x2 => funext fun x3 => f5_vestrylaw14_BtreePlays.l0_eq rec n m x0 x1 x2 x3
   exact (show loopAt C rec n 5 [1,1,1,1,1,0,1,0] [] (m + 1) [(0,SV.home (OV.flat (FV.val (PV.sl (some 6) x0)))),(4,SV.home (OV.cont .box [FV.val (PV.ptr (some 3) x1)])),(5,SV.home (OV.cont .box [FV.own (some 2) x2 []])),(6,SV.home (OV.flat (FV.val (PV.int .i64 x3))))] = f5_vestrylaw14_BtreePlays.l0.step rec n (fun x0 x1 x2 x3 => loopAt C rec n 5 [1,1,1,1,1,0,1,0] [] m [(0,SV.home (OV.flat (FV.val (PV.sl (some 6) x0)))),(4,SV.home (OV.cont .box [FV.val (PV.ptr (some 3) x1)])),(5,SV.home (OV.cont .box [FV.own (some 2) x2 []])),(6,SV.home (OV.flat (FV.val (PV.int .i64 x3))))]) x0 x1 x2 x3 from by kernel_rfl).trans (by rw [ih];rfl)
noncomputable def f5_vestrylaw14_BtreePlays.pre (rec : Rec) (n : Nat) (l0 : List PV → PV → List PV → Int → Option (List OV × List OV)) (a0 : List PV) : Option (List OV × List OV) :=
 callB (rec 8 []) fun r1 => needB (okOs Try.prog [4] [] (Prod.fst r1)) <|
 callB (rec 17 []) fun r2 => needB (okOs Try.prog [25] [.b [false]] (Prod.fst r2)) <|
 ifB (!(PV.toB (FV.pv (OV.fv (List.headD (Prod.fst r1) (OV.flat FV.gone))))))
 (some ([OV.flat (FV.val (PV.bool false))],[]))
 (l0 a0 (PV.deref (FV.pv (List.headD (OV.cells (List.headD (Prod.fst r2) (OV.flat FV.gone))) FV.gone))) [] (0 : Int))
noncomputable def f5_vestrylaw14_BtreePlays (rec : Rec) (n : Nat) (a0 : List PV) : Option (List OV × List OV):=f5_vestrylaw14_BtreePlays.pre rec n (f5_vestrylaw14_BtreePlays.l0 rec n n) a0
theorem f5_vestrylaw14_BtreePlays_eq (rec : Rec) (n : Nat) (a0 : List PV) : callBody C rec n 5 [OV.flat (FV.val (PV.sl (some 6) a0))] = f5_vestrylaw14_BtreePlays rec n a0:=by
 have i0 : (fun x0 x1 x2 x3 => loopAt C rec n 5 [1,1,1,1,1,0,1,0] [] n [(0,SV.home (OV.flat (FV.val (PV.sl (some 6) x0)))),(4,SV.home (OV.cont .box [FV.val (PV.ptr (some 3) x1)])),(5,SV.home (OV.cont .box [FV.own (some 2) x2 []])),(6,SV.home (OV.flat (FV.val (PV.int .i64 x3))))]) = f5_vestrylaw14_BtreePlays.l0 rec n n:=funext fun x0 => funext fun x1 => funext fun x2 => funext fun x3 => f5_vestrylaw14_BtreePlays.l0_eq rec n n x0 x1 x2 x3
 exact (show callBody C rec n 5 [OV.flat (FV.val (PV.sl (some 6) a0))] = f5_vestrylaw14_BtreePlays.pre rec n (fun x0 x1 x2 x3 => loopAt C rec n 5 [1,1,1,1,1,0,1,0] [] n [(0,SV.home (OV.flat (FV.val (PV.sl (some 6) x0)))),(4,SV.home (OV.cont .box [FV.val (PV.ptr (some 3) x1)])),(5,SV.home (OV.cont .box [FV.own (some 2) x2 []])),(6,SV.home (OV.flat (FV.val (PV.int .i64 x3))))]) a0 from by kernel_rfl).trans (by rw [i0];rfl)
end Go.Proofs.Ytnieankaikhmnaa.P3

open Go Go.Ev
set_option linter.unusedVariables false
set_option maxRecDepth 100000
namespace Go.Proofs.Ytnieankaikhmnaa
noncomputable def f33_vestryref14_Tree_Put (rec : Rec) (n : Nat) (a0 : List PV) (a1 : List PV) (a2 : List PV) : Option (List OV × List OV) :=
 callB (rec 53 [OV.cont .box [FV.own (some 2) a0 []],OV.flat (FV.val (PV.sl none a1))]) fun r1 => needB (okOs Try.prog [3] [] (Prod.fst r1)) <|
 needB (okOuts Try.prog [42,23] [.io (.b [true]),.ro] (Prod.snd r1)) <|
 callB (rec 54 [OV.cont .box [FV.own (some 2) (FV.xs (List.headD (OV.cells (List.headD (Prod.snd r1) (OV.flat FV.gone))) FV.gone)) []],OV.flat (FV.val (PV.int .i64 (PV.toI (FV.pv (OV.fv (List.headD (Prod.fst r1) (OV.flat FV.gone))))))),OV.flat (FV.val (PV.sl none a1))]) fun r2 => needB (okOs Try.prog [4] [] (Prod.fst r2)) <|
 needB (okOuts Try.prog [42,3,23] [.io (.b [true]),.ro,.ro] (Prod.snd r2)) <|
 needB (decide ((0 : Int) ≤ PV.toI (FV.pv (OV.fv (List.headD (Prod.fst r1) (OV.flat FV.gone)))))) <|
 needB (decide (PV.toI (FV.pv (OV.fv (List.headD (Prod.fst r1) (OV.flat FV.gone)))) ≤ ((List.length (FV.xs (List.headD (OV.cells (List.headD (Prod.snd r2) (OV.flat FV.gone))) FV.gone)) : Nat) : Int))) <|
 needB (Nat.ble ((List.length ([] : List PV) + List.length (List.take (Int.toNat (PV.toI (FV.pv (OV.fv (List.headD (Prod.fst r1) (OV.flat FV.gone))))) - 0) (List.drop 0 (FV.xs (List.headD (OV.cells (List.headD (Prod.snd r2) (OV.flat FV.gone))) FV.gone))))) * 48) 140737488355328) <|
 needB (Nat.ble (List.length ([] : List PV) + List.length (List.take (Int.toNat (PV.toI (FV.pv (OV.fv (List.headD (Prod.fst r1) (OV.flat FV.gone))))) - 0) (List.drop 0 (FV.xs (List.headD (OV.cells (List.headD (Prod.snd r2) (OV.flat FV.gone))) FV.gone))))) 9223372036854775807) <|
 callB (rec 55 [OV.flat (FV.val (PV.sl none a1))]) fun r3 => needB (okOs Try.prog [23] [.o] (Prod.fst r3)) <|
 callB (rec 55 [OV.flat (FV.val (PV.sl none a2))]) fun r4 => needB (okOs Try.prog [23] [.o] (Prod.fst r4)) <|
 needB (Nat.ble ((List.length ([] ++ (List.take (Int.toNat (PV.toI (FV.pv (OV.fv (List.headD (Prod.fst r1) (OV.flat FV.gone))))) - 0) (List.drop 0 (FV.xs (List.headD (OV.cells (List.headD (Prod.snd r2) (OV.flat FV.gone))) FV.gone))))) + List.length [PV.agg [PV.sl none (FV.xs (OV.fv (List.headD (Prod.fst r3) (OV.flat FV.gone)))),PV.sl none (FV.xs (OV.fv (List.headD (Prod.fst r4) (OV.flat FV.gone))))]]) * 48) 140737488355328) <|
 needB (Nat.ble (List.length ([] ++ (List.take (Int.toNat (PV.toI (FV.pv (OV.fv (List.headD (Prod.fst r1) (OV.flat FV.gone))))) - 0) (List.drop 0 (FV.xs (List.headD (OV.cells (List.headD (Prod.snd r2) (OV.flat FV.gone))) FV.gone))))) + List.length [PV.agg [PV.sl none (FV.xs (OV.fv (List.headD (Prod.fst r3) (OV.flat FV.gone)))),PV.sl none (FV.xs (OV.fv (List.headD (Prod.fst r4) (OV.flat FV.gone))))]]) 9223372036854775807) <|
 ifB (PV.toB (FV.pv (OV.fv (List.headD (Prod.fst r2) (OV.flat FV.gone)))))
 (needB (decide ((0 : Int) ≤ IntKind.wrap .i64 (PV.toI (FV.pv (OV.fv (List.headD (Prod.fst r1) (OV.flat FV.gone)))) + (1 : Int)))) <|
 needB (decide (IntKind.wrap .i64 (PV.toI (FV.pv (OV.fv (List.headD (Prod.fst r1) (OV.flat FV.gone)))) + (1 : Int)) ≤ ((List.length (FV.xs (List.headD (OV.cells (List.headD (Prod.snd r2) (OV.flat FV.gone))) FV.gone)) : Nat) : Int))) <|
 needB (Nat.ble ((List.length (([] ++ (List.take (Int.toNat (PV.toI (FV.pv (OV.fv (List.headD (Prod.fst r1) (OV.flat FV.gone))))) - 0) (List.drop 0 (FV.xs (List.headD (OV.cells (List.headD (Prod.snd r2) (OV.flat FV.gone))) FV.gone))))) ++ [PV.agg [PV.sl none (FV.xs (OV.fv (List.headD (Prod.fst r3) (OV.flat FV.gone)))),PV.sl none (FV.xs (OV.fv (List.headD (Prod.fst r4) (OV.flat FV.gone))))]]) + List.length (List.take (List.length (FV.xs (List.headD (OV.cells (List.headD (Prod.snd r2) (OV.flat FV.gone))) FV.gone)) - Int.toNat (IntKind.wrap .i64 (PV.toI (FV.pv (OV.fv (List.headD (Prod.fst r1) (OV.flat FV.gone)))) + (1 : Int)))) (List.drop (Int.toNat (IntKind.wrap .i64 (PV.toI (FV.pv (OV.fv (List.headD (Prod.fst r1) (OV.flat FV.gone)))) + (1 : Int)))) (FV.xs (List.headD (OV.cells (List.headD (Prod.snd r2) (OV.flat FV.gone))) FV.gone))))) * 48) 140737488355328) <|
 needB (Nat.ble (List.length (([] ++ (List.take (Int.toNat (PV.toI (FV.pv (OV.fv (List.headD (Prod.fst r1) (OV.flat FV.gone))))) - 0) (List.drop 0 (FV.xs (List.headD (OV.cells (List.headD (Prod.snd r2) (OV.flat FV.gone))) FV.gone))))) ++ [PV.agg [PV.sl none (FV.xs (OV.fv (List.headD (Prod.fst r3) (OV.flat FV.gone)))),PV.sl none (FV.xs (OV.fv (List.headD (Prod.fst r4) (OV.flat FV.gone))))]]) + List.length (List.take (List.length (FV.xs (List.headD (OV.cells (List.headD (Prod.snd r2) (OV.flat FV.gone))) FV.gone)) - Int.toNat (IntKind.wrap .i64 (PV.toI (FV.pv (OV.fv (List.headD (Prod.fst r1) (OV.flat FV.gone)))) + (1 : Int)))) (List.drop (Int.toNat (IntKind.wrap .i64 (PV.toI (FV.pv (OV.fv (List.headD (Prod.fst r1) (OV.flat FV.gone)))) + (1 : Int)))) (FV.xs (List.headD (OV.cells (List.headD (Prod.snd r2) (OV.flat FV.gone))) FV.gone))))) 9223372036854775807) <|
 some ([OV.flat (FV.val (PV.bool (PV.toB (FV.pv (OV.fv (List.headD (Prod.fst r2) (OV.flat FV.gone)))))))],[OV.cont .box [FV.own (some 2) ((([] ++ (List.take (Int.toNat (PV.toI (FV.pv (OV.fv (List.headD (Prod.fst r1) (OV.flat FV.gone))))) - 0) (List.drop 0 (FV.xs (List.headD (OV.cells (List.headD (Prod.snd r2) (OV.flat FV.gone))) FV.gone))))) ++ [PV.agg [PV.sl none (FV.xs (OV.fv (List.headD (Prod.fst r3) (OV.flat FV.gone)))),PV.sl none (FV.xs (OV.fv (List.headD (Prod.fst r4) (OV.flat FV.gone))))]]) ++ (List.take (List.length (FV.xs (List.headD (OV.cells (List.headD (Prod.snd r2) (OV.flat FV.gone))) FV.gone)) - Int.toNat (IntKind.wrap .i64 (PV.toI (FV.pv (OV.fv (List.headD (Prod.fst r1) (OV.flat FV.gone)))) + (1 : Int)))) (List.drop (Int.toNat (IntKind.wrap .i64 (PV.toI (FV.pv (OV.fv (List.headD (Prod.fst r1) (OV.flat FV.gone)))) + (1 : Int)))) (FV.xs (List.headD (OV.cells (List.headD (Prod.snd r2) (OV.flat FV.gone))) FV.gone))))) []],OV.flat FV.gone,OV.flat FV.gone]))
 (needB (decide ((0 : Int) ≤ PV.toI (FV.pv (OV.fv (List.headD (Prod.fst r1) (OV.flat FV.gone)))))) <|
 needB (decide (PV.toI (FV.pv (OV.fv (List.headD (Prod.fst r1) (OV.flat FV.gone)))) ≤ ((List.length (FV.xs (List.headD (OV.cells (List.headD (Prod.snd r2) (OV.flat FV.gone))) FV.gone)) : Nat) : Int))) <|
 needB (Nat.ble ((List.length (([] ++ (List.take (Int.toNat (PV.toI (FV.pv (OV.fv (List.headD (Prod.fst r1) (OV.flat FV.gone))))) - 0) (List.drop 0 (FV.xs (List.headD (OV.cells (List.headD (Prod.snd r2) (OV.flat FV.gone))) FV.gone))))) ++ [PV.agg [PV.sl none (FV.xs (OV.fv (List.headD (Prod.fst r3) (OV.flat FV.gone)))),PV.sl none (FV.xs (OV.fv (List.headD (Prod.fst r4) (OV.flat FV.gone))))]]) + List.length (List.take (List.length (FV.xs (List.headD (OV.cells (List.headD (Prod.snd r2) (OV.flat FV.gone))) FV.gone)) - Int.toNat (PV.toI (FV.pv (OV.fv (List.headD (Prod.fst r1) (OV.flat FV.gone)))))) (List.drop (Int.toNat (PV.toI (FV.pv (OV.fv (List.headD (Prod.fst r1) (OV.flat FV.gone)))))) (FV.xs (List.headD (OV.cells (List.headD (Prod.snd r2) (OV.flat FV.gone))) FV.gone))))) * 48) 140737488355328) <|
 needB (Nat.ble (List.length (([] ++ (List.take (Int.toNat (PV.toI (FV.pv (OV.fv (List.headD (Prod.fst r1) (OV.flat FV.gone))))) - 0) (List.drop 0 (FV.xs (List.headD (OV.cells (List.headD (Prod.snd r2) (OV.flat FV.gone))) FV.gone))))) ++ [PV.agg [PV.sl none (FV.xs (OV.fv (List.headD (Prod.fst r3) (OV.flat FV.gone)))),PV.sl none (FV.xs (OV.fv (List.headD (Prod.fst r4) (OV.flat FV.gone))))]]) + List.length (List.take (List.length (FV.xs (List.headD (OV.cells (List.headD (Prod.snd r2) (OV.flat FV.gone))) FV.gone)) - Int.toNat (PV.toI (FV.pv (OV.fv (List.headD (Prod.fst r1) (OV.flat FV.gone)))))) (List.drop (Int.toNat (PV.toI (FV.pv (OV.fv (List.headD (Prod.fst r1) (OV.flat FV.gone)))))) (FV.xs (List.headD (OV.cells (List.headD (Prod.snd r2) (OV.flat FV.gone))) FV.gone))))) 9223372036854775807) <|
 some ([OV.flat (FV.val (PV.bool (PV.toB (FV.pv (OV.fv (List.headD (Prod.fst r2) (OV.flat FV.gone)))))))],[OV.cont .box [FV.own (some 2) ((([] ++ (List.take (Int.toNat (PV.toI (FV.pv (OV.fv (List.headD (Prod.fst r1) (OV.flat FV.gone))))) - 0) (List.drop 0 (FV.xs (List.headD (OV.cells (List.headD (Prod.snd r2) (OV.flat FV.gone))) FV.gone))))) ++ [PV.agg [PV.sl none (FV.xs (OV.fv (List.headD (Prod.fst r3) (OV.flat FV.gone)))),PV.sl none (FV.xs (OV.fv (List.headD (Prod.fst r4) (OV.flat FV.gone))))]]) ++ (List.take (List.length (FV.xs (List.headD (OV.cells (List.headD (Prod.snd r2) (OV.flat FV.gone))) FV.gone)) - Int.toNat (PV.toI (FV.pv (OV.fv (List.headD (Prod.fst r1) (OV.flat FV.gone)))))) (List.drop (Int.toNat (PV.toI (FV.pv (OV.fv (List.headD (Prod.fst r1) (OV.flat FV.gone)))))) (FV.xs (List.headD (OV.cells (List.headD (Prod.snd r2) (OV.flat FV.gone))) FV.gone))))) []],OV.flat FV.gone,OV.flat FV.gone]))
theorem f33_vestryref14_Tree_Put_eq (rec : Rec) (n : Nat) (a0 : List PV) (a1 : List PV) (a2 : List PV) : callBody C rec n 33 [OV.cont .box [FV.own (some 2) a0 []],OV.flat (FV.val (PV.sl none a1)),OV.flat (FV.val (PV.sl none a2))] = f33_vestryref14_Tree_Put rec n a0 a1 a2:=by kernel_rfl
noncomputable def f34_vestryref14_Tree_Delete (rec : Rec) (n : Nat) (a0 : List PV) (a1 : List PV) : Option (List OV × List OV) :=
 callB (rec 53 [OV.cont .box [FV.own (some 2) a0 []],OV.flat (FV.val (PV.sl none a1))]) fun r1 => needB (okOs Try.prog [3] [] (Prod.fst r1)) <|
 needB (okOuts Try.prog [42,23] [.io (.b [true]),.ro] (Prod.snd r1)) <|
 callB (rec 54 [OV.cont .box [FV.own (some 2) (FV.xs (List.headD (OV.cells (List.headD (Prod.snd r1) (OV.flat FV.gone))) FV.gone)) []],OV.flat (FV.val (PV.int .i64 (PV.toI (FV.pv (OV.fv (List.headD (Prod.fst r1) (OV.flat FV.gone))))))),OV.flat (FV.val (PV.sl none a1))]) fun r2 => needB (okOs Try.prog [4] [] (Prod.fst r2)) <|
 needB (okOuts Try.prog [42,3,23] [.io (.b [true]),.ro,.ro] (Prod.snd r2)) <|
 ifB (!(PV.toB (FV.pv (OV.fv (List.headD (Prod.fst r2) (OV.flat FV.gone))))))
 (some ([OV.flat (FV.val (PV.bool false))],[OV.cont .box [FV.own (some 2) (FV.xs (List.headD (OV.cells (List.headD (Prod.snd r2) (OV.flat FV.gone))) FV.gone)) []],OV.flat FV.gone]))
 (needB (decide ((0 : Int) ≤ PV.toI (FV.pv (OV.fv (List.headD (Prod.fst r1) (OV.flat FV.gone)))))) <|
 needB (decide (PV.toI (FV.pv (OV.fv (List.headD (Prod.fst r1) (OV.flat FV.gone)))) ≤ ((List.length (FV.xs (List.headD (OV.cells (List.headD (Prod.snd r2) (OV.flat FV.gone))) FV.gone)) : Nat) : Int))) <|
 needB (Nat.ble ((List.length ([] : List PV) + List.length (List.take (Int.toNat (PV.toI (FV.pv (OV.fv (List.headD (Prod.fst r1) (OV.flat FV.gone))))) - 0) (List.drop 0 (FV.xs (List.headD (OV.cells (List.headD (Prod.snd r2) (OV.flat FV.gone))) FV.gone))))) * 48) 140737488355328) <|
 needB (Nat.ble (List.length ([] : List PV) + List.length (List.take (Int.toNat (PV.toI (FV.pv (OV.fv (List.headD (Prod.fst r1) (OV.flat FV.gone))))) - 0) (List.drop 0 (FV.xs (List.headD (OV.cells (List.headD (Prod.snd r2) (OV.flat FV.gone))) FV.gone))))) 9223372036854775807) <|
 needB (decide ((0 : Int) ≤ IntKind.wrap .i64 (PV.toI (FV.pv (OV.fv (List.headD (Prod.fst r1) (OV.flat FV.gone)))) + (1 : Int)))) <|
 needB (decide (IntKind.wrap .i64 (PV.toI (FV.pv (OV.fv (List.headD (Prod.fst r1) (OV.flat FV.gone)))) + (1 : Int)) ≤ ((List.length (FV.xs (List.headD (OV.cells (List.headD (Prod.snd r2) (OV.flat FV.gone))) FV.gone)) : Nat) : Int))) <|
 needB (Nat.ble ((List.length ([] ++ (List.take (Int.toNat (PV.toI (FV.pv (OV.fv (List.headD (Prod.fst r1) (OV.flat FV.gone))))) - 0) (List.drop 0 (FV.xs (List.headD (OV.cells (List.headD (Prod.snd r2) (OV.flat FV.gone))) FV.gone))))) + List.length (List.take (List.length (FV.xs (List.headD (OV.cells (List.headD (Prod.snd r2) (OV.flat FV.gone))) FV.gone)) - Int.toNat (IntKind.wrap .i64 (PV.toI (FV.pv (OV.fv (List.headD (Prod.fst r1) (OV.flat FV.gone)))) + (1 : Int)))) (List.drop (Int.toNat (IntKind.wrap .i64 (PV.toI (FV.pv (OV.fv (List.headD (Prod.fst r1) (OV.flat FV.gone)))) + (1 : Int)))) (FV.xs (List.headD (OV.cells (List.headD (Prod.snd r2) (OV.flat FV.gone))) FV.gone))))) * 48) 140737488355328) <|
 needB (Nat.ble (List.length ([] ++ (List.take (Int.toNat (PV.toI (FV.pv (OV.fv (List.headD (Prod.fst r1) (OV.flat FV.gone))))) - 0) (List.drop 0 (FV.xs (List.headD (OV.cells (List.headD (Prod.snd r2) (OV.flat FV.gone))) FV.gone))))) + List.length (List.take (List.length (FV.xs (List.headD (OV.cells (List.headD (Prod.snd r2) (OV.flat FV.gone))) FV.gone)) - Int.toNat (IntKind.wrap .i64 (PV.toI (FV.pv (OV.fv (List.headD (Prod.fst r1) (OV.flat FV.gone)))) + (1 : Int)))) (List.drop (Int.toNat (IntKind.wrap .i64 (PV.toI (FV.pv (OV.fv (List.headD (Prod.fst r1) (OV.flat FV.gone)))) + (1 : Int)))) (FV.xs (List.headD (OV.cells (List.headD (Prod.snd r2) (OV.flat FV.gone))) FV.gone))))) 9223372036854775807) <|
 some ([OV.flat (FV.val (PV.bool true))],[OV.cont .box [FV.own (some 2) (([] ++ (List.take (Int.toNat (PV.toI (FV.pv (OV.fv (List.headD (Prod.fst r1) (OV.flat FV.gone))))) - 0) (List.drop 0 (FV.xs (List.headD (OV.cells (List.headD (Prod.snd r2) (OV.flat FV.gone))) FV.gone))))) ++ (List.take (List.length (FV.xs (List.headD (OV.cells (List.headD (Prod.snd r2) (OV.flat FV.gone))) FV.gone)) - Int.toNat (IntKind.wrap .i64 (PV.toI (FV.pv (OV.fv (List.headD (Prod.fst r1) (OV.flat FV.gone)))) + (1 : Int)))) (List.drop (Int.toNat (IntKind.wrap .i64 (PV.toI (FV.pv (OV.fv (List.headD (Prod.fst r1) (OV.flat FV.gone)))) + (1 : Int)))) (FV.xs (List.headD (OV.cells (List.headD (Prod.snd r2) (OV.flat FV.gone))) FV.gone))))) []],OV.flat FV.gone]))
theorem f34_vestryref14_Tree_Delete_eq (rec : Rec) (n : Nat) (a0 : List PV) (a1 : List PV) : callBody C rec n 34 [OV.cont .box [FV.own (some 2) a0 []],OV.flat (FV.val (PV.sl none a1))] = f34_vestryref14_Tree_Delete rec n a0 a1:=by kernel_rfl
noncomputable def f35_vestryref14_Tree_Get (rec : Rec) (n : Nat) (a0 : List PV) (a1 : List PV) : Option (List OV × List OV) :=
 callB (rec 53 [OV.cont .box [FV.own (some 2) a0 []],OV.flat (FV.val (PV.sl none a1))]) fun r1 => needB (okOs Try.prog [3] [] (Prod.fst r1)) <|
 needB (okOuts Try.prog [42,23] [.io (.b [true]),.ro] (Prod.snd r1)) <|
 callB (rec 54 [OV.cont .box [FV.own (some 2) (FV.xs (List.headD (OV.cells (List.headD (Prod.snd r1) (OV.flat FV.gone))) FV.gone)) []],OV.flat (FV.val (PV.int .i64 (PV.toI (FV.pv (OV.fv (List.headD (Prod.fst r1) (OV.flat FV.gone))))))),OV.flat (FV.val (PV.sl none a1))]) fun r2 => needB (okOs Try.prog [4] [] (Prod.fst r2)) <|
 needB (okOuts Try.prog [42,3,23] [.io (.b [true]),.ro,.ro] (Prod.snd r2)) <|
 ifB (!(PV.toB (FV.pv (OV.fv (List.headD (Prod.fst r2) (OV.flat FV.gone))))))
 (some ([OV.flat (FV.own none [] []),OV.flat (FV.val (PV.bool false))],[OV.cont .box [FV.own (some 2) (FV.xs (List.headD (OV.cells (List.headD (Prod.snd r2) (OV.flat FV.gone))) FV.gone)) []],OV.flat FV.gone]))
 (needB (decide ((0 : Int) ≤ PV.toI (FV.pv (OV.fv (List.headD (Prod.fst r1) (OV.flat FV.gone)))))) <|
 needB (decide (PV.toI (FV.pv (OV.fv (List.headD (Prod.fst r1) (OV.flat FV.gone)))) < ((List.length (FV.xs (List.headD (OV.cells (List.headD (Prod.snd r2) (OV.flat FV.gone))) FV.gone)) : Nat) : Int))) <|
 needB (Nat.blt (Int.toNat (PV.toI (FV.pv (OV.fv (List.headD (Prod.fst r1) (OV.flat FV.gone)))))) (List.length (FV.xs (List.headD (OV.cells (List.headD (Prod.snd r2) (OV.flat FV.gone))) FV.gone)))) <|
 needB (Ev.isAgg (nthP (FV.xs (List.headD (OV.cells (List.headD (Prod.snd r2) (OV.flat FV.gone))) FV.gone)) (Int.toNat (PV.toI (FV.pv (OV.fv (List.headD (Prod.fst r1) (OV.flat FV.gone))))))) && Nat.ble (1 + 1) (List.length (PV.cells (nthP (FV.xs (List.headD (OV.cells (List.headD (Prod.snd r2) (OV.flat FV.gone))) FV.gone)) (Int.toNat (PV.toI (FV.pv (OV.fv (List.headD (Prod.fst r1) (OV.flat FV.gone)))))))))) <|
 needB (hasT Try.prog 23 (partX none 1 (nthP (FV.xs (List.headD (OV.cells (List.headD (Prod.snd r2) (OV.flat FV.gone))) FV.gone)) (Int.toNat (PV.toI (FV.pv (OV.fv (List.headD (Prod.fst r1) (OV.flat FV.gone))))))))) <|
 callB (rec 55 [OV.flat (FV.val (PV.sl none (PV.toL (partX none 1 (nthP (FV.xs (List.headD (OV.cells (List.headD (Prod.snd r2) (OV.flat FV.gone))) FV.gone)) (Int.toNat (PV.toI (FV.pv (OV.fv (List.headD (Prod.fst r1) (OV.flat FV.gone)))))))))))]) fun r3 => needB (okOs Try.prog [23] [.o] (Prod.fst r3)) <|
 some ([OV.flat (FV.own none (FV.xs (OV.fv (List.headD (Prod.fst r3) (OV.flat FV.gone)))) []),OV.flat (FV.val (PV.bool true))],[OV.cont .box [FV.own (some 2) (FV.xs (List.headD (OV.cells (List.headD (Prod.snd r2) (OV.flat FV.gone))) FV.gone)) []],OV.flat FV.gone]))
theorem f35_vestryref14_Tree_Get_eq (rec : Rec) (n : Nat) (a0 : List PV) (a1 : List PV) : callBody C rec n 35 [OV.cont .box [FV.own (some 2) a0 []],OV.flat (FV.val (PV.sl none a1))] = f35_vestryref14_Tree_Get rec n a0 a1:=by kernel_rfl
noncomputable def f37_vestryref14_Tree_Range.l0.step (rec : Rec) (n : Nat) (self_l0 : List PV → List PV → List PV → Bool → List PV → Int → Option (List OV × List OV)) (x0 : List PV) (x1 : List PV) (x2 : List PV) (x3 : Bool) (x4 : List PV) (x5 : Int) : Option (List OV × List OV) :=
 ifB (decide (x5 < ((List.length x0 : Nat) : Int)))
 (needB (decide ((0 : Int) ≤ x5)) <|
 needB (decide (x5 < ((List.length x0 : Nat) : Int))) <|
 needB (Nat.blt (Int.toNat x5) (List.length x0)) <|
 needB (Ev.isAgg (nthP x0 (Int.toNat x5)) && Nat.ble (0 + 1) (List.length (PV.cells (nthP x0 (Int.toNat x5))))) <|
 needB (hasT Try.prog 23 (partX none 0 (nthP x0 (Int.toNat x5)))) <|
 callB (rec 11 [OV.flat (FV.val (PV.agg [PV.sl none x1,PV.sl none x2,PV.bool x3])),OV.flat (FV.val (PV.sl none (PV.toL (partX none 0 (nthP x0 (Int.toNat x5))))))]) fun r1 => needB (okOs Try.prog [4] [] (Prod.fst r1)) <|
 ifB (PV.toB (FV.pv (OV.fv (List.headD (Prod.fst r1) (OV.flat FV.gone)))))
 (needB (decide ((0 : Int) ≤ x5)) <|
 needB (decide (x5 < ((List.length x0 : Nat) : Int))) <|
 needB (Nat.blt (Int.toNat x5) (List.length x0)) <|
 needB (hasT Try.prog 33 (nthP x0 (Int.toNat x5))) <|
 needB (Nat.ble ((List.length x4 + List.length [PV.agg [PV.sl none (PV.toL (List.headD (PV.cells (nthP x0 (Int.toNat x5))) PV.undef)),PV.sl none (PV.toL (List.headD (List.tail (PV.cells (nthP x0 (Int.toNat x5)))) PV.undef))]]) * 48) 140737488355328) <|
 needB (Nat.ble (List.length x4 + List.length [PV.agg [PV.sl none (PV.toL (List.headD (PV.cells (nthP x0 (Int.toNat x5))) PV.undef)),PV.sl none (PV.toL (List.headD (List.tail (PV.cells (nthP x0 (Int.toNat x5)))) PV.undef))]]) 9223372036854775807) <|
 self_l0 x0 x1 x2 x3 (x4 ++ [PV.agg [PV.sl none (PV.toL (List.headD (PV.cells (nthP x0 (Int.toNat x5))) PV.undef)),PV.sl none (PV.toL (List.headD (List.tail (PV.cells (nthP x0 (Int.toNat x5)))) PV.undef))]]) (IntKind.wrap .i64 (x5 + (1 : Int))))
 (self_l0 x0 x1 x2 x3 x4 (IntKind.wrap .i64 (x5 + (1 : Int)))))
 (some ([OV.flat (FV.own (some 2) x4 [])],[OV.cont .box [FV.own (some 2) x0 []],OV.flat FV.gone]))
noncomputable def f37_vestryref14_Tree_Range.l0 (rec : Rec) (n : Nat) : Nat → List PV → List PV → List PV → Bool → List PV → Int → Option (List OV × List OV)
 | 0,_,_,_,_,_,_ => none
 | m + 1,x0,x1,x2,x3,x4,x5 => f37_vestryref14_Tree_Range.l0.step rec n (f37_vestryref14_Tree_Range.l0 rec n m) x0 x1 x2 x3 x4 x5
theorem f37_vestryref14_Tree_Range.l0_eq (rec : Rec) (n : Nat) : ∀ (m : Nat) (x0 : List PV) (x1 : List PV) (x2 : List PV) (x3 : Bool) (x4 : List PV) (x5 : Int),loopAt C rec n 37 [1,1,0,1,0] [] m [(0,SV.home (OV.cont .box [FV.own (some 2) x0 []])),(3,SV.home (OV.cont .box [FV.val (PV.sl none x1),FV.val (PV.sl none x2),FV.val (PV.bool x3)])),(5,SV.home (OV.flat (FV.own (some 2) x4 []))),(6,SV.home (OV.flat (FV.val (PV.int .i64 x5))))] = f37_vestryref14_Tree_Range.l0 rec n m x0 x1 x2 x3 x4 x5
 | 0,x0,x1,x2,x3,x4,x5 => by kernel_rfl
 | m + 1,x0,x1,x2,x3,x4,x5 => by
   have ih : (fun x0 x1 x2 x3 x4 x5 => loopAt C rec n 37 [1,1,0,1,0] [] m [(0,SV.home (OV.cont .box [FV.own (some 2) x0 []])),(3,SV.home (OV.cont .box [FV.val (PV.sl none x1),FV.val (PV.sl none x2),FV.val (PV.bool x3)])),(5,SV.home (OV.flat (FV.own (some 2) x4 []))),(6,SV.home (OV.flat (FV.val (PV.int .i64 x5))))]) = f37_vestryref14_Tree_Range.l0 rec n m:=funext fun x0 => funext fun x1 => funext fun x2 => funext fun x3 => funext fun x4 => funext fun x5 => f37_vestryref14_Tree_Range.l0_eq rec n m x0 x1 x2 x3 x4 x5
   exact (show loopAt C rec n 37 [1,1,0,1,0] [] (m + 1) [(0,SV.home (OV.cont .box [FV.own (some 2) x0 []])),(3,SV.home (OV.cont .box [FV.val (PV.sl none x1),FV.val (PV.sl none x2),FV.val (PV.bool x3)])),(5,SV.home (OV.flat (FV.own (some 2) x4 []))),(6,SV.home (OV.flat (FV.val (PV.int .i64 x5))))] = f37_vestryref14_Tree_Range.l0.step rec n (fun x0 x1 x2 x3 x4 x5 => loopAt C rec n 37 [1,1,0,1,0] [] m [(0,SV.home (OV.cont .box [FV.own (some 2) x0 []])),(3,SV.home (OV.cont .box [FV.val (PV.sl none x1),FV.val (PV.sl none x2),FV.val (PV.bool x3)])),(5,SV.home (OV.flat (FV.own (some 2) x4 []))),(6,SV.home (OV.flat (FV.val (PV.int .i64 x5))))]) x0 x1 x2 x3 x4 x5 from by kernel_rfl).trans (by rw [ih];rfl)
noncomputable def f37_vestryref14_Tree_Range.pre (rec : Rec) (n : Nat) (l0 : List PV → List PV → List PV → Bool → List PV → Int → Option (List OV × List OV)) (a0 : List PV) (a1 : List PV) (a2 : List PV) (a3 : Bool) : Option (List OV × List OV) :=
 l0 a0 a1 a2 a3 [] (0 : Int)
noncomputable def f37_vestryref14_Tree_Range (rec : Rec) (n : Nat) (a0 : List PV) (a1 : List PV) (a2 : List PV) (a3 : Bool) : Option (List OV × List OV):=f37_vestryref14_Tree_Range.pre rec n (f37_vestryref14_Tree_Range.l0 rec n n) a0 a1 a2 a3
theorem f37_vestryref14_Tree_Range_eq (rec : Rec) (n : Nat) (a0 : List PV) (a1 : List PV) (a2 : List PV) (a3 : Bool) : callBody C rec n 37 [OV.cont .box [FV.own (some 2) a0 []],OV.flat (FV.val (PV.agg [PV.sl none a1,PV.sl none a2,PV.bool a3]))] = f37_vestryref14_Tree_Range rec n a0 a1 a2 a3:=by
 have i0 : (fun x0 x1 x2 x3 x4 x5 => loopAt C rec n 37 [1,1,0,1,0] [] n [(0,SV.home (OV.cont .box [FV.own (some 2) x0 []])),(3,SV.home (OV.cont .box [FV.val (PV.sl none x1),FV.val (PV.sl none x2),FV.val (PV.bool x3)])),(5,SV.home (OV.flat (FV.own (some 2) x4 []))),(6,SV.home (OV.flat (FV.val (PV.int .i64 x5))))]) = f37_vestryref14_Tree_Range.l0 rec n n:=funext fun x0 => funext fun x1 => funext fun x2 => funext fun x3 => funext fun x4 => funext fun x5 => f37_vestryref14_Tree_Range.l0_eq rec n n x0 x1 x2 x3 x4 x5
 exact (show callBody C rec n 37 [OV.cont .box [FV.own (some 2) a0 []],OV.flat (FV.val (PV.agg [PV.sl none a1,PV.sl none a2,PV.bool a3]))] = f37_vestryref14_Tree_Range.pre rec n (fun x0 x1 x2 x3 x4 x5 => loopAt C rec n 37 [1,1,0,1,0] [] n [(0,SV.home (OV.cont .box [FV.own (some 2) x0 []])),(3,SV.home (OV.cont .box [FV.val (PV.sl none x1),FV.val (PV.sl none x2),FV.val (PV.bool x3)])),(5,SV.home (OV.flat (FV.own (some 2) x4 []))),(6,SV.home (OV.flat (FV.val (PV.int .i64 x5))))]) a0 a1 a2 a3 from by kernel_rfl).trans (by rw [i0];rfl)
noncomputable def f53_vestryref14_Tree_at.l0.step (rec : Rec) (n : Nat) (self_l0 : List PV → List PV → Int → Option (List OV × List OV)) (x0 : List PV) (x1 : List PV) (x2 : Int) : Option (List OV × List OV) :=
 ifB (decide (x2 < ((List.length x0 : Nat) : Int)))
 (needB (decide ((0 : Int) ≤ x2)) <|
 needB (decide (x2 < ((List.length x0 : Nat) : Int))) <|
 needB (Nat.blt (Int.toNat x2) (List.length x0)) <|
 needB (Ev.isAgg (nthP x0 (Int.toNat x2)) && Nat.ble (0 + 1) (List.length (PV.cells (nthP x0 (Int.toNat x2))))) <|
 needB (hasT Try.prog 23 (partX none 0 (nthP x0 (Int.toNat x2)))) <|
 needB (List.all (PV.toL (partX none 0 (nthP x0 (Int.toNat x2)))) isByte) <|
 needB (List.all x1 isByte) <|
 ifB (Op.bytesLess (List.map u8Of (PV.toL (partX none 0 (nthP x0 (Int.toNat x2))))) (List.map u8Of x1))
 (self_l0 x0 x1 (IntKind.wrap .i64 (x2 + (1 : Int))))
 (some ([OV.flat (FV.val (PV.int .i64 x2))],[OV.cont .box [FV.own (some 2) x0 []],OV.flat FV.gone])))
 (some ([OV.flat (FV.val (PV.int .i64 x2))],[OV.cont .box [FV.own (some 2) x0 []],OV.flat FV.gone]))
noncomputable def f53_vestryref14_Tree_at.l0 (rec : Rec) (n : Nat) : Nat → List PV → List PV → Int → Option (List OV × List OV)
 | 0,_,_,_ => none
 | m + 1,x0,x1,x2 => f53_vestryref14_Tree_at.l0.step rec n (f53_vestryref14_Tree_at.l0 rec n m) x0 x1 x2
theorem f53_vestryref14_Tree_at.l0_eq (rec : Rec) (n : Nat) : ∀ (m : Nat) (x0 : List PV) (x1 : List PV) (x2 : Int),loopAt C rec n 53 [1,1,0,0] [] m [(0,SV.home (OV.cont .box [FV.own (some 2) x0 []])),(1,SV.home (OV.flat (FV.val (PV.sl none x1)))),(5,SV.home (OV.flat (FV.val (PV.int .i64 x2))))] = f53_vestryref14_Tree_at.l0 rec n m x0 x1 x2
 | 0,x0,x1,x2 => by kernel_rfl
 | m + 1,x0,x1,x2 => by
   have ih : (fun x0 x1 x2 => loopAt C rec n 53 [1,1,0,0] [] m [(0,SV.home (OV.cont .box [FV.own (some 2) x0 []])),(1,SV.home (OV.flat (FV.val (PV.sl none x1)))),(5,SV.home (OV.flat (FV.val (PV.int .i64 x2))))]) = f53_vestryref14_Tree_at.l0 rec n m:=funext fun x0 => funext fun x1 => funext fun x2 => f53_vestryref14_Tree_at.l0_eq rec n m x0 x1 x2
   exact (show loopAt C rec n 53 [1,1,0,0] [] (m + 1) [(0,SV.home (OV.cont .box [FV.own (some 2) x0 []])),(1,SV.home (OV.flat (FV.val (PV.sl none x1)))),(5,SV.home (OV.flat (FV.val (PV.int .i64 x2))))] = f53_vestryref14_Tree_at.l0.step rec n (fun x0 x1 x2 => loopAt C rec n 53 [1,1,0,0] [] m [(0,SV.home (OV.cont .box [FV.own (some 2) x0 []])),(1,SV.home (OV.flat (FV.val (PV.sl none x1)))),(5,SV.home (OV.flat (FV.val (PV.int .i64 x2))))]) x0 x1 x2 from by kernel_rfl).trans (by rw [ih];rfl)
noncomputable def f53_vestryref14_Tree_at.pre (rec : Rec) (n : Nat) (l0 : List PV → List PV → Int → Option (List OV × List OV)) (a0 : List PV) (a1 : List PV) : Option (List OV × List OV) :=
 l0 a0 a1 (0 : Int)
noncomputable def f53_vestryref14_Tree_at (rec : Rec) (n : Nat) (a0 : List PV) (a1 : List PV) : Option (List OV × List OV):=f53_vestryref14_Tree_at.pre rec n (f53_vestryref14_Tree_at.l0 rec n n) a0 a1
theorem f53_vestryref14_Tree_at_eq (rec : Rec) (n : Nat) (a0 : List PV) (a1 : List PV) : callBody C rec n 53 [OV.cont .box [FV.own (some 2) a0 []],OV.flat (FV.val (PV.sl none a1))] = f53_vestryref14_Tree_at rec n a0 a1:=by
 have i0 : (fun x0 x1 x2 => loopAt C rec n 53 [1,1,0,0] [] n [(0,SV.home (OV.cont .box [FV.own (some 2) x0 []])),(1,SV.home (OV.flat (FV.val (PV.sl none x1)))),(5,SV.home (OV.flat (FV.val (PV.int .i64 x2))))]) = f53_vestryref14_Tree_at.l0 rec n n:=funext fun x0 => funext fun x1 => funext fun x2 => f53_vestryref14_Tree_at.l0_eq rec n n x0 x1 x2
 exact (show callBody C rec n 53 [OV.cont .box [FV.own (some 2) a0 []],OV.flat (FV.val (PV.sl none a1))] = f53_vestryref14_Tree_at.pre rec n (fun x0 x1 x2 => loopAt C rec n 53 [1,1,0,0] [] n [(0,SV.home (OV.cont .box [FV.own (some 2) x0 []])),(1,SV.home (OV.flat (FV.val (PV.sl none x1)))),(5,SV.home (OV.flat (FV.val (PV.int .i64 x2))))]) a0 a1 from by kernel_rfl).trans (by rw [i0];rfl)
noncomputable def f54_vestryref14_Tree_has (rec : Rec) (n : Nat) (a0 : List PV) (a1 : Int) (a2 : List PV) : Option (List OV × List OV) :=
 ifB (decide (a1 < ((List.length a0 : Nat) : Int)))
 (needB (decide ((0 : Int) ≤ a1)) <|
 needB (decide (a1 < ((List.length a0 : Nat) : Int))) <|
 needB (Nat.blt (Int.toNat a1) (List.length a0)) <|
 needB (Ev.isAgg (nthP a0 (Int.toNat a1)) && Nat.ble (0 + 1) (List.length (PV.cells (nthP a0 (Int.toNat a1))))) <|
 needB (hasT Try.prog 23 (partX none 0 (nthP a0 (Int.toNat a1)))) <|
 needB (List.all (PV.toL (partX none 0 (nthP a0 (Int.toNat a1)))) isByte) <|
 needB (List.all a2 isByte) <|
 some ([OV.flat (FV.val (PV.bool ((List.map u8Of (PV.toL (partX none 0 (nthP a0 (Int.toNat a1))))) == (List.map u8Of a2))))],[OV.cont .box [FV.own (some 2) a0 []],OV.flat FV.gone,OV.flat FV.gone]))
 (some ([OV.flat (FV.val (PV.bool false))],[OV.cont .box [FV.own (some 2) a0 []],OV.flat FV.gone,OV.flat FV.gone]))
theorem f54_vestryref14_Tree_has_eq (rec : Rec) (n : Nat) (a0 : List PV) (a1 : Int) (a2 : List PV) : callBody C rec n 54 [OV.cont .box [FV.own (some 2) a0 []],OV.flat (FV.val (PV.int .i64 a1)),OV.flat (FV.val (PV.sl none a2))] = f54_vestryref14_Tree_has rec n a0 a1 a2:=by kernel_rfl
noncomputable def f55_vestryref14_copied (rec : Rec) (n : Nat) (a0 : List PV) : Option (List OV × List OV) :=
 needB (Nat.ble ((List.length ([] : List PV) + List.length a0) * 1) 140737488355328) <|
 needB (Nat.ble (List.length ([] : List PV) + List.length a0) 9223372036854775807) <|
 some ([OV.flat (FV.own none ([] ++ a0) [])],[])
theorem f55_vestryref14_copied_eq (rec : Rec) (n : Nat) (a0 : List PV) : callBody C rec n 55 [OV.flat (FV.val (PV.sl none a0))] = f55_vestryref14_copied rec n a0:=by kernel_rfl
end Go.Proofs.Ytnieankaikhmnaa

set_option linter.unusedVariables false
set_option linter.unusedSimpArgs false
namespace Go.Proofs.Ytnieankaikhmnaa
open Go Go.Ev Go.T14
abbrev xB (l : List Ent) : OV := .cont .box [.own (some 2) (l.map entV) []]
abbrev gg : OV := .flat .gone
theorem okO42 (l : List Ent) : okO Try.prog 42 (.b [true]) (xB l) = true:=by
 have h1 : boxTys Try.prog 42 = [27]:=by kernel_rfl
 show okFs Try.prog (boxTys Try.prog 42) [true] [.own (some 2) (l.map entV) []] = true
 rw [h1]
 have h2:=ok27 (l.map entV)
 have h3 : okO Try.prog 27 .o (.flat (.own (some 2) (l.map entV) [])) = okF Try.prog 27 true (.own (some 2) (l.map entV) []):=rfl
 have h4 : (okO Try.prog 27 .o (.flat (.own (some 2) (l.map entV) [])) && okOs Try.prog [] [] []) = true:=h2
 rw [h3] at h4
 simp only [Bool.and_eq_true] at h4
 simp only [okFs,h4.1,Bool.and_self]
theorem okX2 (l : List Ent) : okOuts Try.prog [42,23] [.io (.b [true]),.ro] [xB l,gg] = true:=by
 show (okO Try.prog 42 (.b [true]) (xB l) && true) = true
 rw [okO42];rfl
theorem okX3 (l : List Ent) : okOuts Try.prog [42,3,23] [.io (.b [true]),.ro,.ro] [xB l,gg,gg] = true:=by
 show (okO Try.prog 42 (.b [true]) (xB l) && true) = true
 rw [okO42];rfl
theorem nthB {l : List Ent} {i : Nat} (h : i < l.length) : Nat.blt i (l.map entV).length = true:=by rw [Nat.blt_eq,List.length_map];exact h
theorem partK (e : Ent) : partX none 0 (entV e) = .sl none (bb e.k):=rfl
theorem partV (e : Ent) : partX none 1 (entV e) = .sl none (bb e.v):=rfl
theorem isAggE (e : Ent) : Ev.isAgg (entV e) = true:=rfl
theorem s55 (n : Nat) (a : List UInt8) (h : a.length ≤ big) : pcall C (n + 1) 55 [vR a] = some ([vO a],[]):=by
 rw [pcall_step (by rfl) (by rfl),f55_vestryref14_copied_eq]
 unfold f55_vestryref14_copied
 have b1 : Nat.ble ((([] : List PV).length + (bb a).length) * 1) 140737488355328 = true:=by rw [Nat.ble_eq,List.length_map];unfold big at h;simp;omega
 have b2 : Nat.ble (([] : List PV).length + (bb a).length) 9223372036854775807 = true:=by rw [Nat.ble_eq,List.length_map];unfold big at h;simp;omega
 simp only [b1,b2,needB_true,List.nil_append]
theorem at_loop (rec : Rec) (n : Nat) (k : List UInt8) (l : List Ent) (hs : Sorted l) (hl : l.length ≤ 1000000) : ∀ (m i : Nat),i ≤ ltc k l → l.length - i < m →
 f53_vestryref14_Tree_at.l0 rec n m (l.map entV) (bb k) (i : Int) = some ([vI (ltc k l)],[xB l,gg])
 | 0,i,_,h => by omega
 | m + 1,i,hi,h => by
   show f53_vestryref14_Tree_at.l0.step _ _ (f53_vestryref14_Tree_at.l0 _ _ m) _ _ _ = _
   unfold f53_vestryref14_Tree_at.l0.step
   have hle:=ltc_le k l
   by_cases hlt : i < l.length
   · obtain ⟨e,he⟩ : ∃ e,l[i]? = some e:=⟨_,List.getElem?_eq_getElem hlt⟩
     have c1 : ((i : Int) < (((l.map entV).length : Nat) : Int)):=by rw [List.length_map];omega
     have c2 : (0 : Int) ≤ (i : Int):=by omega
     have c3 : Nat.ble (0 + 1) [PV.sl none (bb e.k),PV.sl none (bb e.v)].length = true:=rfl
     have w : IntKind.wrap .i64 ((i : Int) + 1) = ((i + 1 : Nat) : Int):=wrap_succ (by omega)
     simp only [c1,c2,decide_true,ifB_t,needB_true,Int.toNat_natCast,nthB hlt,nthP_map entV he,isAggE,cells_ent,c3,Bool.and_self,partK,hasT23,toL_sl,bb_isByte,bb_u8,w]
     rcases Nat.lt_or_ge i (ltc k l) with h1 | h1
     · rw [ltc_below hs h1 he]
       simp only [ifB_t]
       exact at_loop rec n k l hs hl m (i + 1) h1 (by omega)
     · rw [ltc_above hs h1 he]
       have : i = ltc k l:=by omega
       simp only [ifB_f,this]
   · have c1 : ¬ ((i : Int) < (((l.map entV).length : Nat) : Int)):=by rw [List.length_map];omega
     have : i = ltc k l:=by omega
     simp only [c1,decide_false,ifB_f]
     rw [this]
theorem s53 (n : Nat) (k : List UInt8) (l : List Ent) (hs : Sorted l) (hl : l.length ≤ 1000) : pcall C (n + 1010) 53 [xB l,vR k] = some ([vI (ltc k l)],[xB l,gg]):=by
 rw [pcall_step (by rfl) (by rfl),f53_vestryref14_Tree_at_eq]
 unfold f53_vestryref14_Tree_at f53_vestryref14_Tree_at.pre
 exact at_loop _ _ k l hs (by omega) _ 0 (Nat.zero_le _) (by omega)
theorem s54 (n : Nat) (k : List UInt8) (l : List Ent) (hs : Sorted l) : pcall C (n + 1) 54 [xB l,vI (ltc k l),vR k] = some ([vB (has k l)],[xB l,gg,gg]):=by
 rw [pcall_step (by rfl) (by rfl),f54_vestryref14_Tree_has_eq]
 unfold f54_vestryref14_Tree_has
 rw [has_ltc hs]
 by_cases hlt : ltc k l < l.length
 · obtain ⟨e,he⟩ : ∃ e,l[ltc k l]? = some e:=⟨_,List.getElem?_eq_getElem hlt⟩
   have c1 : (((ltc k l : Nat) : Int) < (((l.map entV).length : Nat) : Int)):=by rw [List.length_map];omega
   have c2 : (0 : Int) ≤ ((ltc k l : Nat) : Int):=by omega
   have c3 : Nat.ble (0 + 1) [PV.sl none (bb e.k),PV.sl none (bb e.v)].length = true:=rfl
   simp only [c1,c2,decide_true,ifB_t,needB_true,Int.toNat_natCast,nthB hlt,nthP_map entV he,isAggE,cells_ent,c3,Bool.and_self,partK,hasT23,toL_sl,bb_isByte,bb_u8,he]
 · have c1 : ¬ (((ltc k l : Nat) : Int) < (((l.map entV).length : Nat) : Int)):=by rw [List.length_map];omega
   have he : l[ltc k l]? = none:=List.getElem?_eq_none (by omega)
   simp only [c1,decide_false,ifB_f,he]
theorem toI_v (n : Int) : PV.toI (.int .i64 n) = n:=rfl
theorem cells_x (k : CK) (l : List FV) : OV.cells (.cont k l) = l:=rfl
theorem ents_cat (a b : List Ent) : a.map entV ++ b.map entV = (a ++ b).map entV:=by simp
theorem ent_one (e : Ent) : [PV.agg [PV.sl none (bb e.k),PV.sl none (bb e.v)]] = [e].map entV:=rfl
theorem room48 {k : Nat} (h : k ≤ 100000) : Nat.ble (k * 48) 140737488355328 = true ∧ Nat.ble k 9223372036854775807 = true:=by
 rw [Nat.ble_eq,Nat.ble_eq];omega
theorem s33 (n : Nat) (l : List Ent) (e : Ent) (hs : Sorted l) (hl : l.length ≤ 1000) (hk : e.k.length ≤ big) (hv : e.v.length ≤ big) :
 pcall C (n + 1011) 33 [xB l,vR e.k,vR e.v] = some ([vB (has e.k l)],[xB (insL e l),gg,gg]):=by
 rw [pcall_step (by rfl) (by rfl),f33_vestryref14_Tree_Put_eq]
 unfold f33_vestryref14_Tree_Put
 have hle:=ltc_le e.k l
 have c0 : (0 : Int) ≤ ((ltc e.k l : Nat) : Int):=by omega
 have c1 : ((ltc e.k l : Nat) : Int) ≤ (((l.map entV).length : Nat) : Int):=by rw [List.length_map];omega
 have w : IntKind.wrap .i64 (((ltc e.k l : Nat) : Int) + 1) = ((ltc e.k l + 1 : Nat) : Int):=wrap_succ (by omega)
 have t0 : List.take (ltc e.k l - 0) (List.drop 0 (l.map entV)) = (l.take (ltc e.k l)).map entV:=by simp
 have t1 : List.take ((l.map entV).length - ltc e.k l) (List.drop (ltc e.k l) (l.map entV)) = (l.drop (ltc e.k l)).map entV:=by
  rw [List.take_of_length_le (by simp),List.map_drop]
 have t2 : List.take ((l.map entV).length - (ltc e.k l + 1)) (List.drop (ltc e.k l + 1) (l.map entV)) = (l.drop (ltc e.k l + 1)).map entV:=by
  rw [List.take_of_length_le (by simp),List.map_drop]
 have l1 : (l.take (ltc e.k l)).length = ltc e.k l:=by rw [List.length_take];omega
 simp only [s53 n e.k l hs hl,callB_some,ok3,needB_true,List.headD_cons,fvF,pvF,toI_v,okX2,cells_x,xsO,s54 (n + 1009) e.k l hs,ok4,okX3,c0,c1,decide_true,Int.toNat_natCast,t0,s55 (n + 1009) e.k hk,s55 (n + 1009) e.v hv,ok23,ent_one,List.nil_append,
  List.length_map,List.length_nil,List.length_singleton,Nat.zero_add,l1,(room48 (show ltc e.k l ≤ 100000 by omega)).1,(room48 (show ltc e.k l ≤ 100000 by omega)).2,(room48 (show ltc e.k l + 1 ≤ 100000 by omega)).1,(room48 (show ltc e.k l + 1 ≤ 100000 by omega)).2,toB_bool,w]
 cases hh : has e.k l with
 | true =>
   have hlt:=ltc_has_lt hs hh
   have c2 : (0 : Int) ≤ ((ltc e.k l + 1 : Nat) : Int):=by omega
   have c3 : ((ltc e.k l + 1 : Nat) : Int) ≤ ((l.length : Nat) : Int):=by omega
   simp only [List.length_map] at t2
   have e1 : l.take (ltc e.k l) ++ [e] ++ l.drop (ltc e.k l + 1) = insL e l:=by
    rw [← set_insL hs hh,List.set_eq_take_append_cons_drop,if_pos hlt];simp
   have c1b : ((ltc e.k l : Nat) : Int) ≤ ((l.length : Nat) : Int):=by omega
   have hsz : (List.map entV (l.take (ltc e.k l) ++ [e])).length + ((l.drop (ltc e.k l + 1)).map entV).length ≤ 100000:=by simp;omega
   simp only [ifB_t,c1b,c2,c3,decide_true,needB_true,Int.toNat_natCast,t2,(room48 hsz).1,(room48 hsz).2,ents_cat,e1]
 | false =>
   have c3 : ((ltc e.k l : Nat) : Int) ≤ ((l.length : Nat) : Int):=by omega
   simp only [List.length_map] at t1
   have hsz : (List.map entV (l.take (ltc e.k l) ++ [e])).length + ((l.drop (ltc e.k l)).map entV).length ≤ 100000:=by simp;omega
   simp only [ifB_f,c3,decide_true,needB_true,t1,(room48 hsz).1,(room48 hsz).2,ents_cat,ins_insL hs hh]
theorem s34 (n : Nat) (l : List Ent) (k : List UInt8) (hs : Sorted l) (hl : l.length ≤ 1000) : pcall C (n + 1011) 34 [xB l,vR k] = some ([vB (has k l)],[xB (delL k l),gg]):=by
 rw [pcall_step (by rfl) (by rfl),f34_vestryref14_Tree_Delete_eq]
 unfold f34_vestryref14_Tree_Delete
 have hle:=ltc_le k l
 simp only [s53 n k l hs hl,callB_some,ok3,needB_true,List.headD_cons,fvF,pvF,toI_v,okX2,cells_x,xsO,s54 (n + 1009) k l hs,ok4,okX3,toB_bool]
 cases hh : has k l with
 | false =>
   simp only [Bool.not_false,ifB_t]
   rw [show delL k l = l from delL_none hh]
 | true =>
   have hlt:=ltc_has_lt hs hh
   have c0 : (0 : Int) ≤ ((ltc k l : Nat) : Int):=by omega
   have c1 : ((ltc k l : Nat) : Int) ≤ (((l.map entV).length : Nat) : Int):=by rw [List.length_map];omega
   have w : IntKind.wrap .i64 (((ltc k l : Nat) : Int) + 1) = ((ltc k l + 1 : Nat) : Int):=wrap_succ (by omega)
   have c2 : (0 : Int) ≤ ((ltc k l + 1 : Nat) : Int):=by omega
   have c3 : ((ltc k l + 1 : Nat) : Int) ≤ (((l.map entV).length : Nat) : Int):=by rw [List.length_map];omega
   have t0 : List.take (ltc k l - 0) (List.drop 0 (l.map entV)) = (l.take (ltc k l)).map entV:=by simp
   have t2 : List.take ((l.map entV).length - (ltc k l + 1)) (List.drop (ltc k l + 1) (l.map entV)) = (l.drop (ltc k l + 1)).map entV:=by
    rw [List.take_of_length_le (by simp),List.map_drop]
   have z1 : ([] : List PV).length + ((l.take (ltc k l)).map entV).length ≤ 100000:=by simp;omega
   have z2 : ((l.take (ltc k l)).map entV).length + ((l.drop (ltc k l + 1)).map entV).length ≤ 100000:=by simp;omega
   simp only [Bool.not_true,ifB_f,w,c0,c1,c2,c3,decide_true,needB_true,Int.toNat_natCast,t0,t2,(room48 z1).1,(room48 z1).2,List.nil_append,(room48 z2).1,(room48 z2).2,ents_cat,erase_delL hs hh]
def getR (k : List UInt8) (l : List Ent) : List UInt8:=match l[ltc k l]? with | some e => if e.k = k then e.v else [] | none => []
theorem s35 (n : Nat) (l : List Ent) (k : List UInt8) (hs : Sorted l) (hl : l.length ≤ 1000) (hsh : Short big l) : pcall C (n + 1011) 35 [xB l,vR k] = some ([vO (getR k l),vB (has k l)],[xB l,gg]):=by
 rw [pcall_step (by rfl) (by rfl),f35_vestryref14_Tree_Get_eq]
 unfold f35_vestryref14_Tree_Get
 have hle:=ltc_le k l
 simp only [s53 n k l hs hl,callB_some,ok3,needB_true,List.headD_cons,fvF,pvF,toI_v,okX2,cells_x,xsO,s54 (n + 1009) k l hs,ok4,okX3,toB_bool]
 cases hh : has k l with
 | false =>
   have : getR k l = []:=by
    unfold getR
    rw [has_ltc hs] at hh
    cases he : l[ltc k l]? with
    | none => rfl
    | some e => rw [he] at hh;simp only at hh ⊢;rw [if_neg (by simpa using hh)]
   simp only [Bool.not_false,ifB_t,this]
   rfl
 | true =>
   have hlt:=ltc_has_lt hs hh
   obtain ⟨e,he,hek,_⟩:=has_at hs hh
   have hg : getR k l = e.v:=by unfold getR;rw [he];simp only;rw [if_pos hek]
   have c0 : (0 : Int) ≤ ((ltc k l : Nat) : Int):=by omega
   have c1 : ((ltc k l : Nat) : Int) < (((l.map entV).length : Nat) : Int):=by rw [List.length_map];omega
   have c3 : Nat.ble (1 + 1) [PV.sl none (bb e.k),PV.sl none (bb e.v)].length = true:=rfl
   have hv:=(hsh e (List.mem_of_getElem? he)).2
   simp only [Bool.not_true,ifB_f,c0,c1,decide_true,needB_true,Int.toNat_natCast,nthB hlt,nthP_map entV he,isAggE,cells_ent,c3,Bool.and_self,partV,hasT23,toL_sl,s55 (n + 1009) e.v hv,callB_some,ok23,List.headD_cons,fvF,xsO,hg]
theorem range_loop14 (n N : Nat) (s : Sp) (l : List Ent) (hl : l.length ≤ 1000) : ∀ (m i : Nat),i ≤ l.length → l.length - i < m →
 f37_vestryref14_Tree_Range.l0 (pcall C (n + 1)) N m (l.map entV) (bb s.f) (bb s.t) s.e ((rangeL s (l.take i)).map entV) (i : Int) = some ([vEo (rangeL s l)],[xB l,gg])
 | 0,i,_,h => by omega
 | m + 1,i,hi,h => by
   show f37_vestryref14_Tree_Range.l0.step _ _ (f37_vestryref14_Tree_Range.l0 _ _ m) _ _ _ _ _ _ = _
   unfold f37_vestryref14_Tree_Range.l0.step
   by_cases hlt : i < l.length
   · obtain ⟨e,he⟩ : ∃ e,l[i]? = some e:=⟨_,List.getElem?_eq_getElem hlt⟩
     have c1 : ((i : Int) < (((l.map entV).length : Nat) : Int)):=by rw [List.length_map];omega
     have c2 : (0 : Int) ≤ (i : Int):=by omega
     have c3 : Nat.ble (0 + 1) [PV.sl none (bb e.k),PV.sl none (bb e.v)].length = true:=rfl
     have w : IntKind.wrap .i64 ((i : Int) + 1) = ((i + 1 : Nat) : Int):=wrap_succ (by omega)
     have htk : l.take (i + 1) = l.take i ++ [e]:=by rw [List.take_add_one,he];rfl
     have ih:=range_loop14 n N s l hl m (i + 1) hlt (by omega)
     rw [htk] at ih
     have hrl : (rangeL s (l.take i)).length ≤ i:=by
      have h1 : (rangeL s (l.take i)).length ≤ (l.take i).length:=List.length_filter_le _ _
      rw [List.length_take] at h1;omega
     simp only [c1,c2,decide_true,ifB_t,needB_true,Int.toNat_natCast,nthB hlt,nthP_map entV he,isAggE,cells_ent,c3,Bool.and_self,partK,hasT23,hasT33e,toL_sl,s11,callB_some,ok4,List.headD_cons,List.tail_cons,fvF,pvF,toB_bool,w]
     cases hin : inSp s e.k with
     | true =>
       have e1 : rangeL s (l.take i ++ [e]) = rangeL s (l.take i) ++ [e]:=by unfold rangeL;rw [List.filter_append,List.filter_cons,if_pos hin];rfl
       rw [e1] at ih
       have z : ((rangeL s (l.take i)).map entV).length + [PV.agg [PV.sl none (bb e.k),PV.sl none (bb e.v)]].length ≤ 100000:=by simp;omega
       simp only [ifB_t,(room48 z).1,(room48 z).2,needB_true]
       rw [ent_one,ents_cat]
       exact ih
     | false =>
       have e1 : rangeL s (l.take i ++ [e]) = rangeL s (l.take i):=by unfold rangeL;rw [List.filter_append,List.filter_cons,if_neg (by rw [hin];simp)];simp
       rw [e1] at ih
       simp only [ifB_f]
       exact ih
   · have c1 : ¬ ((i : Int) < (((l.map entV).length : Nat) : Int)):=by rw [List.length_map];omega
     have : l.take i = l:=List.take_of_length_le (by omega)
     simp only [c1,decide_false,ifB_f,this]
theorem s37 (n : Nat) (s : Sp) (l : List Ent) (hl : l.length ≤ 1000) : pcall C (n + 1011) 37 [xB l,.flat (.val (.agg [.sl none (bb s.f),.sl none (bb s.t),.bool s.e]))] = some ([vEo (rangeL s l)],[xB l,gg]):=by
 rw [pcall_step (by rfl) (by rfl),f37_vestryref14_Tree_Range_eq]
 unfold f37_vestryref14_Tree_Range f37_vestryref14_Tree_Range.pre
 exact range_loop14 (n + 1009) _ s l hl _ 0 (Nat.zero_le _) (by omega)
end Go.Proofs.Ytnieankaikhmnaa

set_option linter.unusedVariables false
set_option linter.unusedSimpArgs false
namespace Go.Proofs.Ytnieankaikhmnaa.P2
open Go Go.Ev Go.T14
abbrev vS (k : List UInt8) : OV := .flat (.own none (bb k) [.int .u8 77])
theorem pcall_step {n : Nat} {f : FuncId} {args : List OV} (h : C.prim f = none) (hf : C.frz f = []) : pcall C (n + 1) f args = callBody C (pcall C n) n f args:=by
 show (match C.prim f with
  | some p => p args
  | none => frzM (C.frz f) (callBody C (pcall C n) n f args)) = _
 rw [h,hf]
 exact frzM_nil _
theorem pcall_prim {n : Nat} {f : FuncId} {args : List OV} {p : List OV → Option (List OV × List OV)} (h : C.prim f = some p) : pcall C (n + 1) f args = p args:=by
 show (match C.prim f with
  | some p => p args
  | none => frzM (C.frz f) (callBody C (pcall C n) n f args)) = _
 rw [h]
theorem pp {g : FuncId} (hg : C.prim g = some (pcall Ytnieankaikhmnaa.C 5000 g)) (n : Nat) (args : List OV) : pcall C (n + 1) g args = pcall Ytnieankaikhmnaa.C 5000 g args:=pcall_prim hg
theorem s24 (n : Nat) (k : List UInt8) (es : List Ent) (bs : List PV) (c : Int) (hs : Sorted es) (hl : es.length ≤ 1000) : pcall C (n + 1011) 24 [vPg (es.map entV) bs c,vR k] = some ([vI (ltc k es),vB (has k es)],[]):=by
 rw [show n + 1011 = n + 1010 + 1 from rfl,pp (by rfl)]
 exact Ytnieankaikhmnaa.s24 3989 k es bs c hs hl
theorem s27 (n : Nat) (a : List UInt8) (h : a.length ≤ big) : pcall C (n + 1) 27 [vR a] = some ([vO a],[]):=by
 rw [pp (by rfl)]
 exact Ytnieankaikhmnaa.s27 4999 a h
theorem s31 (n : Nat) (es : List Ent) : pcall C (n + 1) 31 [vEs es] = some ([vP 0 es],[]):=by
 rw [pp (by rfl)]
 exact Ytnieankaikhmnaa.s31 4999 es
theorem s44 (n : Nat) (x : List PV) (h : x.length ≤ 1000000) : pcall C (n + 1) 44 [.flat (.val (.sl (some 2) x))] = some ([.flat (.own (some 2) x [])],[]):=by
 rw [pp (by rfl)]
 exact Ytnieankaikhmnaa.s44 4999 x h
theorem s48 (n : Nat) (x y : List PV) (i j : Nat) (h : x.length ≤ 1000000) (hij : i < j) (hj : j ≤ x.length) (hy : 0 < y.length) (hy2 : y.length ≤ 1000) : pcall C (n + 1) 48 [.flat (.own none x []),vI (i : Int),vI (j : Int),.flat (.own none y [])] = some ([.flat (.own none (x.take i ++ y ++ x.drop j) [])],[]):=by
 rw [pp (by rfl)]
 exact Ytnieankaikhmnaa.s48 4999 x y i j h hij hj hy hy2
theorem s49 (n : Nat) (x : List PV) (h : x.length ≤ 1000000) : pcall C (n + 1) 49 [.flat (.val (.sl none x))] = some ([.flat (.own none x [])],[]):=by
 rw [pp (by rfl)]
 exact Ytnieankaikhmnaa.s49 4999 x h
theorem s50 (n : Nat) (x : List PV) (i j : Nat) (h : x.length ≤ 1000000) (hij : i < j) (hj : j ≤ x.length) : pcall C (n + 1) 50 [.flat (.own (some 2) x []),vI (i : Int),vI (j : Int)] = some ([.flat (.own (some 2) (x.take i ++ x.drop j) [])],[]):=by
 rw [pp (by rfl)]
 exact Ytnieankaikhmnaa.s50 4999 x i j h hij hj
theorem s51 (n d : Nat) (t : Tr d) (h : sz d t ≤ 1000) : pcall C (n + 1) 51 [vP d t] = some ([vI (sz d t : Int)],[]):=by
 rw [pp (by rfl)]
 exact Ytnieankaikhmnaa.s51 4999 d t h
theorem s29 (N d : Nat) (bs : List (Tr d)) (hl : bs.length ≤ 1000) (hc : (bs.flatMap (flat d)).length ≤ 1000000000) (hN : 1002 ≤ N) (hN2 : N ≤ 4900:=by omega) : pcall C N 29 [vPs d bs] = some ([vP (d + 1) bs],[]):=by
 obtain ⟨n,rfl⟩ : ∃ n,N = n + 1:=⟨N - 1,by omega⟩
 rw [pp (by rfl)]
 exact Ytnieankaikhmnaa.s29 5000 d bs hl hc (by omega)
theorem s43 (N d : Nat) (k : List UInt8) (bs : Tr (d + 1)) (ho : Okr (d + 1) bs) (hN : d + 10 ≤ N) (hN2 : N ≤ 4900:=by omega) : pcall C N 43 [vP (d + 1) bs,vR k] = some ([vI (way d bs k : Int)],[]):=by
 obtain ⟨n,rfl⟩ : ∃ n,N = n + 1:=⟨N - 1,by omega⟩
 rw [pp (by rfl)]
 exact Ytnieankaikhmnaa.s43 5000 d k bs ho (by omega)
theorem s52 (N d : Nat) (a b : Tr d) (ha : Okm d a) (hb : Okm d b) (hc : (flat d a).length + (flat d b).length ≤ 100000000) (hN : 1020 ≤ N) (hN2 : N ≤ 4900:=by omega) : pcall C N 52 [vP d a,vP d b] = some ([vPo d (join d a b)],[]):=by
 obtain ⟨n,rfl⟩ : ∃ n,N = n + 1:=⟨N - 1,by omega⟩
 rw [pp (by rfl)]
 exact Ytnieankaikhmnaa.s52 5000 d a b ha hb hc (by omega)
theorem s28 (d N : Nat) (t : Tr d) (e : Ent) (ho : Okr d t) (hs : Sorted (flat d t)) (hc : (flat d t).length ≤ 100000000) (hN : 1030 + d ≤ N) (hN2 : N ≤ 4900:=by omega) : pcall C N 28 [vP d t,vE e] = some ([vPo d (put d t e)],[]):=by
 obtain ⟨n,rfl⟩ : ∃ n,N = n + 1:=⟨N - 1,by omega⟩
 rw [pp (by rfl)]
 exact Ytnieankaikhmnaa.s28 d 5000 t e ho hs hc (by omega)
theorem okS (k : List UInt8) : okO Try.prog 23 .os (vS k) = true:=by
 have h1 : elemShape Try.prog 23 = none:=by kernel_rfl
 have h2 : tElem Try.prog 23 = some 5:=by kernel_rfl
 have h3 : tPlain Try.prog 8 5 = true:=by kernel_rfl
 show (shEq (elemShape Try.prog 23) none && okRow Try.prog 23 (bb k) [.int .u8 77]) = true
 rw [h1]
 unfold okRow
 rw [h2]
 dsimp only
 have h4 : ([PV.int .u8 77].all (hasT Try.prog 5)) = true:=by kernel_rfl
 split
 · rw [all5,h4];rfl
 · rfl
theorem okOuts25 (v : PV) (k : List UInt8) : okOuts Try.prog [25,23] [.io (.b [false]),.io .os] [.cont .box [.val (.ptr (some 3) v)],vS k] = true:=by
 have h : okO Try.prog 25 (.b [false]) (.cont .box [.val (.ptr (some 3) v)]) = true:=by kernel_rfl
 show (okO Try.prog 25 (.b [false]) (.cont .box [.val (.ptr (some 3) v)]) && (okO Try.prog 23 .os (vS k) && true)) = true
 rw [h,okS];rfl
theorem okOuts55 (k : List UInt8) : okOuts Try.prog [55,23] [.ro,.io .os] [.flat .gone,vS k] = true:=by
 show (okO Try.prog 23 .os (vS k) && true) = true
 rw [okS];rfl
theorem spO (sh : Option Nat) (l sp : List PV) : FV.sp (.own sh l sp) = sp:=rfl
theorem find_loop (N n : Nat) (x0 : PV) (key : List UInt8) : ∀ (d : Nat) (t : Tr d) (m : Nat),Okr d t → Sorted (flat d t) → d < m → 1011 + d ≤ N → N ≤ 4900 →
 f26_btree_Tree_find.l0 (pcall C N) n m x0 (bb key) [.int .u8 77] (pgOf d t) = some ([vE (fnd key (flat d t)),vB (has key (flat d t))],[.cont .box [.val (.ptr (some 3) x0)],vS key])
 | _,_,0,_,_,h,_,_ => by omega
 | 0,es,m + 1,ho,hs,_,hN,hN2 => by
   show f26_btree_Tree_find.l0.step _ _ (f26_btree_Tree_find.l0 _ _ m) _ _ _ _ = _
   unfold f26_btree_Tree_find.l0.step
   obtain ⟨N',rfl⟩ : ∃ N',N = N' + 1011:=⟨N - 1011,by omega⟩
   have ho' : (es : List Ent).length ≤ 4:=ho
   have hs' : Sorted (es : List Ent):=hs
   have h24 : pcall C (N' + 1011) 24 [vP 0 es,vR key] = some ([vI (ltc key es),vB (has key es)],[]):=s24 N' key es [] ((flat 0 es).length : Int) hs' (by omega)
   have c0 : ((([] : List PV).length : Nat) : Int) = 0:=rfl
   have cz : (((0 : Int)) == (0 : Int)) = true:=rfl
   have hg:=getL_at (k:=key) hs'
   change _ = some ([vE (fnd key es),vB (has key es)],_)
   cases hh : has key (es : List Ent) with
   | true =>
     obtain ⟨e,he,hk,_⟩:=has_at hs' hh
     have hlt:=ltc_has_lt hs' hh
     rw [hh,if_pos rfl,he] at hg
     have c1 : (0 : Int) ≤ ((ltc key es : Nat) : Int):=by omega
     have c2 : ((ltc key es : Nat) : Int) < (((List.map entV es).length : Nat) : Int):=by rw [List.length_map];omega
     simp only [isS,deref_ptr,hasT63,Bool.and_self,needB_true,cells_pg,List.headD_cons,List.tail_cons,toL_sl,esOf_zero,bsOf_zero,c0,cz,ifB_t,h24,callB_some,ok34,fvF,pvF,toI_int,toB_bool,hh,c1,c2,decide_true,Int.toNat_natCast,nthP_map entV he,hasT33e,cells_ent,fnd,hg,Option.getD_some]
   | false =>
     rw [hh,if_neg (by simp)] at hg
     simp only [isS,deref_ptr,hasT63,Bool.and_self,needB_true,cells_pg,List.headD_cons,List.tail_cons,toL_sl,esOf_zero,bsOf_zero,c0,cz,ifB_t,ifB_f,h24,callB_some,ok34,fvF,pvF,toI_int,toB_bool,hh,fnd,hg,Option.getD_none]
     rfl
 | d + 1,bs,m + 1,ho,hs,hm,hN,hN2 => by
   show f26_btree_Tree_find.l0.step _ _ (f26_btree_Tree_find.l0 _ _ m) _ _ _ _ = _
   unfold f26_btree_Tree_find.l0.step
   have h43:=s43 N d key bs ho (by omega)
   obtain ⟨A,b,C',rfl,h2,h3,h4,hb,hsb,hA,hC,hf⟩:=way_at key ho hs
   have hat : (A ++ b :: C')[A.length]? = some b:=at_split.1
   have c0 : (((List.map (enc d) (A ++ b :: C')).length : Nat) : Int) = (((A ++ b :: C').length : Nat) : Int):=by rw [List.length_map]
   have cz : ((((A ++ b :: C').length : Nat) : Int) == (0 : Int)) = false:=list_nez _ (by simp)
   have c1 : (0 : Int) ≤ ((A.length : Nat) : Int):=by omega
   have c2 : ((A.length : Nat) : Int) < (((A ++ b :: C').length : Nat) : Int):=by rw [List.length_append,List.length_cons];omega
   rw [← h2] at h43
   have hget : fnd key (flat (d + 1) (A ++ b :: C')) = fnd key (flat d b):=by
    unfold fnd
    rw [hf,getL_append (ne_of_lt h3) (ne_of_gt h4)]
   have hhas : has key (flat (d + 1) (A ++ b :: C')) = has key (flat d b):=by rw [hf,has_append (ne_of_lt h3) (ne_of_gt h4)]
   rw [hget,hhas]
   simp only [isS,deref_ptr,hasT63,Bool.and_self,needB_true,cells_pg,List.headD_cons,List.tail_cons,toL_sl,esOf_succ,bsOf_succ,List.length_map,cz,ifB_f,h43,callB_some,ok3,needB_true,List.headD_cons,fvF,pvF,toI_int,c1,c2,decide_true,Int.toNat_natCast,nthP_map (enc d) hat,hasT55e,deref_enc]
   exact find_loop N n x0 key d b m (okp_okr hb) hsb (by omega) (by omega) hN2
theorem s26 (N d : Nat) (t : Tr d) (key : List UInt8) (ho : Okr d t) (hs : Sorted (flat d t)) (hN : 1020 + d ≤ N) (hN2 : N ≤ 4900:=by omega) : pcall C N 26 [tB d t,vS key] = some ([vE (fnd key (flat d t)),vB (has key (flat d t))],[tB d t,vS key]):=by
 obtain ⟨n,rfl⟩ : ∃ n,N = n + 1:=⟨N - 1,by omega⟩
 rw [pcall_step (by rfl) (by rfl),f26_btree_Tree_find_eq]
 unfold f26_btree_Tree_find f26_btree_Tree_find.pre
 exact find_loop n n (pgOf d t) key d t n ho hs (by omega) (by omega) (by omega)
theorem s13 (N d : Nat) (t : Tr d) (key : List UInt8) (ho : Okr d t) (hs : Sorted (flat d t)) (hsh : Short big (flat d t)) (hN : 1021 + d ≤ N) (hN2 : N ≤ 4900:=by omega) : pcall C N 13 [tB d t,vS key] = some ([vO (fnd key (flat d t)).v,vB (has key (flat d t))],[tB d t,vS key]):=by
 obtain ⟨n,rfl⟩ : ∃ n,N = n + 2:=⟨N - 2,by omega⟩
 rw [pcall_step (by rfl) (by rfl),f13_btree_Tree_Get_eq]
 unfold f13_btree_Tree_Get
 have hl : (fnd key (flat d t)).v.length ≤ big:=by
  unfold fnd
  cases hg : getL key (flat d t) with
  | none => exact Nat.zero_le _
  | some e => exact (hsh e ((getL_some hs).1 hg).1).2
 simp only [s26 (n + 1) d t key ho hs (by omega),callB_some,ok334,okOuts25,needB_true,List.headD_cons,List.tail_cons,fvF,pvF,cells_agg,toL_sl,s27 n _ hl,ok23,xsO,toB_bool,cells_box,deref_ptr,spO]
theorem s15 (N : Nat) (T : BT) (e : Ent) (ho : Okr T.d T.t) (hs : Sorted T.flat) (hc : T.flat.length ≤ 100000000) (hk : e.k.length ≤ big) (hv : e.v.length ≤ big) (hN : 1050 + T.d ≤ N) (hN2 : N ≤ 4900:=by omega) :
 pcall C N 15 [tBt T,vS e.k,vS e.v] = some ([vB (has e.k T.flat)],[tBt (putB T e),vS e.k,vS e.v]):=by
 obtain ⟨d,t⟩:=T
 obtain ⟨n,rfl⟩ : ∃ n,N = n + 2:=⟨N - 2,by omega⟩
 rw [pcall_step (by rfl) (by rfl),f15_btree_Tree_Put_eq]
 unfold f15_btree_Tree_Put
 dsimp only at ho hs hc hN hN2 ⊢
 change (flat d t).length ≤ _ at hc
 have h26:=s26 (n + 1) d t e.k ho hs (by omega)
 have h27:=s27 n e.k hk
 have h27':=s27 n e.v hv
 have h28:=s28 d (n + 1) t e ho hs hc (by omega)
 rcases put_ok d t e ho hs with ⟨x,hx,_⟩ | ⟨x,y,hx,h1,h2⟩
 · have hp : putB ⟨d,t⟩ e = ⟨d,x⟩:=by unfold putB;rw [hx]
   rw [hx] at h28
   have c1 : (0 : Int) < ((List.map (enc d) [x]).length : Int):=by simp
   have c2 : Nat.blt 0 (List.map (enc d) [x]).length = true:=rfl
   have c3 : ¬ (((List.map (enc d) [x]).length : Int) > (1 : Int)):=by simp
   have h0 : [x][0]? = some x:=rfl
   simp only [h26,callB_some,ok334,okOuts25,needB_true,List.headD_cons,List.tail_cons,fvF,pvF,xsO,toB_bool,cells_box,deref_ptr,h27,h27',ok23,h28,ok61,c1,c2,c3,decide_true,decide_false,ifB_f,nthP_map (enc d) h0,hasT55e,deref_enc,hp,spO]
 · have hp : putB ⟨d,t⟩ e = ⟨d + 1,[x,y]⟩:=by unfold putB;rw [hx]
   rw [hx] at h28
   have c1 : (0 : Int) < ((List.map (enc d) [x,y]).length : Int):=by simp
   have c2 : Nat.blt 0 (List.map (enc d) [x,y]).length = true:=rfl
   have c3 : (((List.map (enc d) [x,y]).length : Int) > (1 : Int)):=by simp
   have h0 : [x,y][0]? = some x:=rfl
   have hfl:=put_flat_len (e:=e) ho hs
   rw [hx] at hfl
   have h29:=s29 (n + 1) d [x,y] (by simp) (by omega) (by omega)
   simp only [h26,callB_some,ok334,okOuts25,needB_true,List.headD_cons,List.tail_cons,fvF,pvF,xsO,toB_bool,cells_box,deref_ptr,h27,h27',ok23,h28,ok61,c1,c2,c3,decide_true,ifB_t,nthP_map (enc d) h0,hasT55e,h29,ok55,hp,spO]
theorem s30 : ∀ (d N : Nat) (t : Tr d) (key : List UInt8),Okr d t → Sorted (flat d t) → (flat d t).length ≤ 100000000 → has key (flat d t) = true → 1040 + d ≤ N → N ≤ 4900 → pcall C N 30 [vP d t,vS key] = some ([vP d (wo d t key)],[.flat .gone,vS key])
 | 0,N,es,key,ho,hs,hc,hh,hN,hN2 => by
   obtain ⟨n,rfl⟩ : ∃ n,N = n + 1020:=⟨N - 1020,by omega⟩
   rw [pcall_step (by rfl) (by rfl),f30_btree_page_without_eq]
   unfold f30_btree_page_without
   have ho' : (es : List Ent).length ≤ 4:=ho
   have hs' : Sorted (es : List Ent):=hs
   have hh' : has key (es : List Ent) = true:=hh
   have h24 : pcall C (n + 1019) 24 [vP 0 es,vR key] = some ([vI (ltc key es),vB (has key es)],[]):=s24 (n + 8) key es [] ((flat 0 es).length : Int) hs' (by omega)
   have c0 : ((([] : List PV).length : Nat) : Int) = 0:=rfl
   have cz : (((0 : Int)) == (0 : Int)) = true:=rfl
   have h44:=s44 (n + 1018) (List.map entV es) (by rw [List.length_map];omega)
   have hlt:=ltc_has_lt hs' hh'
   have w : IntKind.wrap .i64 ((ltc key es : Int) + 1) = ((ltc key es + 1 : Nat) : Int):=wrap_succ (by omega)
   have h50 : pcall C (n + 1019) 50 [.flat (.own (some 2) (List.map entV es) []),vI (ltc key es : Int),vI ((ltc key es + 1 : Nat) : Int)] = some ([vEo (delL key es)],[]):=by
    have:=s50 (n + 1018) (List.map entV es) (ltc key es) (ltc key es + 1) (by rw [List.length_map];omega) (by omega) (by rw [List.length_map];omega)
    rw [← List.map_take,← List.map_drop,← List.map_append,erase_delL hs' hh'] at this
    exact this
   have h31 : pcall C (n + 1019) 31 [vEs (delL key es)] = some ([vP 0 (wo 0 es key)],[]):=s31 (n + 1018) (delL key es)
   simp only [isS,deref_ptr,hasT63,Bool.and_self,needB_true,cells_pg,List.headD_cons,List.tail_cons,toL_sl,esOf_zero,bsOf_zero,c0,cz,ifB_t,h24,callB_some,ok34,fvF,pvF,xsO,toI_int,h44,ok27,w,h50,h31,ok55]
 | d + 1,N,bs,key,ho,hs,hc,hh,hN,hN2 => by
   obtain ⟨n,rfl⟩ : ∃ n,N = n + 2:=⟨N - 2,by omega⟩
   rw [pcall_step (by rfl) (by rfl),f30_btree_page_without_eq]
   unfold f30_btree_page_without
   have h43:=s43 (n + 1) d key bs ho (by omega)
   have hl2:=ho.1
   have hl4:=ho.2.1
   have hall:=wo_all (d + 1) bs key ho hs hh
   obtain ⟨A,b,C',rfl,h2,h3,h4,hb,hsb,hA,hC,hf⟩:=way_at key ho hs
   obtain ⟨a1,a2,a3⟩:=at_split (A:=A) (b:=b) (C:=C')
   have hcb : (flat d b).length ≤ 100000000:=by
    rw [hf,List.length_append,List.length_append] at hc;omega
   have hhb : has key (flat d b) = true:=by rw [hf,has_append (ne_of_lt h3) (ne_of_gt h4)] at hh;exact hh
   have ih:=s30 d (n + 1) b key (okp_okr hb) hsb hcb hhb (by omega) (by omega)
   obtain ⟨w1,w2,w3⟩:=wo_all d b key (okp_okr hb) hsb hhb
   have w3:=w3 hb
   have hlen : (A ++ b :: C').length = A.length + 1 + C'.length:=by rw [List.length_append,List.length_cons];omega
   have hl2' : 2 ≤ (A ++ b :: C').length:=hl2
   have hl4' : (A ++ b :: C').length ≤ 4:=hl4
   have hlen' : (A ++ wo d b key :: C').length = A.length + 1 + C'.length:=by rw [List.length_append,List.length_cons];omega
   have cz : ((((A ++ b :: C').length : Nat) : Int) == (0 : Int)) = false:=list_nez _ (by omega)
   have c1 : (0 : Int) ≤ ((A.length : Nat) : Int):=by omega
   have c2 : ((A.length : Nat) : Int) < (((A ++ b :: C').length : Nat) : Int):=by omega
   have c2' : ((A.length : Nat) : Int) < (((A ++ wo d b key :: C').length : Nat) : Int):=by omega
   have c3 : Nat.blt A.length (A ++ b :: C').length = true:=by rw [Nat.blt_eq];omega
   have c3' : Nat.blt A.length (A ++ wo d b key :: C').length = true:=by rw [Nat.blt_eq];omega
   rw [← h2] at h43
   have h49:=s49 n (List.map (enc d) (A ++ b :: C')) (by rw [List.length_map];omega)
   have hset : List.set (List.map (enc d) (A ++ b :: C')) A.length (PV.ptr (some 3) (pgOf d (wo d b key))) = List.map (enc d) (A ++ wo d b key :: C'):=by
    rw [← enc_eq,← List.map_set,set_split]
   have hat : (A ++ wo d b key :: C')[A.length]? = some (wo d b key):=at_split.1
   have h51:=s51 n d (wo d b key) (by have:=(sz_le w3).2;omega)
   rw [wo_succ h2] at hall ⊢
   have hflat : (A ++ wo d b key :: C').flatMap (flat d) = delL key (flat (d + 1) (A ++ b :: C')):=by
    rw [hf,delL_append (ne_of_lt h3) (ne_of_gt h4),List.flatMap_append,List.flatMap_cons,w1,List.append_assoc]
   have hdl:=delL_len (k:=key) (l:=flat (d + 1) (A ++ b :: C'))
   by_cases hz : sz d (wo d b key) < 2
   · rw [if_pos hz] at hall ⊢
     have c5 : ((sz d (wo d b key) : Int) < (2 : Int)):=by omega
     obtain ⟨j,hj⟩ : ∃ j,j = min A.length ((A ++ wo d b key :: C').length - 2):=⟨_,rfl⟩
     obtain ⟨x,y,hx,hy,hxy⟩:=pair_split (A ++ wo d b key :: C') j (by omega)
     have wm : IntKind.wrap .i64 (((A ++ wo d b key :: C').length : Int) - 2) = (((A ++ wo d b key :: C').length - 2 : Nat) : Int):=by rw [IntKind.wrap_i64];omega
     have d1 : (0 : Int) ≤ (j : Int):=by omega
     have d2 : (j : Int) < (((A ++ wo d b key :: C').length : Nat) : Int):=by omega
     have d3 : Nat.blt j (A ++ wo d b key :: C').length = true:=by rw [Nat.blt_eq];omega
     have d4 : IntKind.wrap .i64 ((j : Int) + 1) = ((j + 1 : Nat) : Int):=wrap_succ (by omega)
     have d5 : IntKind.wrap .i64 ((j : Int) + 2) = ((j + 2 : Nat) : Int):=by rw [IntKind.wrap_i64];omega
     have d6 : (0 : Int) ≤ ((j + 1 : Nat) : Int):=by omega
     have d7 : ((j + 1 : Nat) : Int) < (((A ++ wo d b key :: C').length : Nat) : Int):=by omega
     have d8 : Nat.blt (j + 1) (A ++ wo d b key :: C').length = true:=by rw [Nat.blt_eq];omega
     have hokm : ∀ z ∈ A ++ wo d b key :: C',Okm d z:=fun z hz => by
      rcases List.mem_append.1 hz with hz | hz
      · exact okp_okm (hA z hz)
      · rcases List.mem_cons.1 hz with rfl | hz
        · exact w3
        · exact okp_okm (hC z hz)
     have hxm:=hokm x (List.mem_of_getElem? hx)
     have hym:=hokm y (List.mem_of_getElem? hy)
     have hfl2 : (flat d x).length + (flat d y).length ≤ ((A ++ wo d b key :: C').flatMap (flat d)).length:=by
      conv => rhs;rw [hxy]
      rw [List.flatMap_append,List.flatMap_cons,List.flatMap_cons,List.length_append,List.length_append,List.length_append];omega
     have h52:=s52 (n + 1) d x y hxm hym (by rw [hflat] at hfl2;omega) (by omega)
     have hmend : mend d (A ++ wo d b key :: C') A.length = (A ++ wo d b key :: C').take j ++ join d x y ++ (A ++ wo d b key :: C').drop (j + 2):=by
      unfold mend
      rw [← hj,hx,hy]
     have hjl : 1 ≤ (join d x y).length ∧ (join d x y).length ≤ 2:=by
      have hhv : ∀ {α : Type} (l : List α),1 ≤ (halves l).length ∧ (halves l).length ≤ 2:=fun l => by
       unfold halves
       split <;> simp
      cases d <;> exact hhv _
     have h48 : pcall C (n + 1) 48 [.flat (.own none (List.map (enc d) (A ++ wo d b key :: C')) []),vI (j : Int),vI ((j + 2 : Nat) : Int),.flat (.own none (List.map (enc d) (join d x y)) [])] = some ([vPo d (mend d (A ++ wo d b key :: C') A.length)],[]):=by
      have:=s48 n (List.map (enc d) (A ++ wo d b key :: C')) (List.map (enc d) (join d x y)) j (j + 2) (by rw [List.length_map];omega) (by omega) (by rw [List.length_map];omega) (by rw [List.length_map];omega) (by rw [List.length_map];omega)
      rw [← List.map_take,← List.map_drop,← List.map_append,← List.map_append,← hmend] at this
      exact this
     have hml : (mend d (A ++ wo d b key :: C') A.length).length ≤ 4:=hall.2.1.2.1
     have h29:=s29 (n + 1) d (mend d (A ++ wo d b key :: C') A.length) (by omega) (by rw [mend_flat (by omega),hflat];omega) (by omega)
     simp only [isS,deref_ptr,hasT63,Bool.and_self,needB_true,cells_pg,List.headD_cons,List.tail_cons,toL_sl,esOf_succ,bsOf_succ,List.length_map,cz,ifB_f,h43,callB_some,ok3,fvF,pvF,xsO,toI_int,h49,ok61,c1,c2,c3,decide_true,Int.toNat_natCast,nthP_map (enc d) a1,hasT55e,deref_enc,ih,ok55,okOuts55,xsO,spO,hset,c2',c3',nthP_map (enc d) hat,h51,c5,ifB_t,wm,mn_nat,← hj,d1,d2,d3,d4,d5,d6,d7,d8,nthP_map (enc d) hx,nthP_map (enc d) hy,h52,h48,h29]
   · rw [if_neg hz] at hall ⊢
     have c5 : ¬ ((sz d (wo d b key) : Int) < (2 : Int)):=by omega
     have h29:=s29 (n + 1) d (A ++ wo d b key :: C') (by omega) (by rw [hflat];omega) (by omega)
     simp only [isS,deref_ptr,hasT63,Bool.and_self,needB_true,cells_pg,List.headD_cons,List.tail_cons,toL_sl,esOf_succ,bsOf_succ,List.length_map,cz,ifB_f,h43,callB_some,ok3,fvF,pvF,xsO,toI_int,h49,ok61,c1,c2,c3,decide_true,decide_false,Int.toNat_natCast,nthP_map (enc d) a1,hasT55e,deref_enc,ih,ok55,okOuts55,xsO,spO,hset,c2',c3',nthP_map (enc d) hat,h51,c5,h29]
theorem s16 (N : Nat) (T : BT) (key : List UInt8) (ho : Okr T.d T.t) (hs : Sorted T.flat) (hc : T.flat.length ≤ 100000000) (hN : 1050 + T.d ≤ N) (hN2 : N ≤ 4900:=by omega) :
 pcall C N 16 [tBt T,vS key] = some ([vB (has key T.flat)],[tBt (delB T key),vS key]):=by
 obtain ⟨d,t⟩:=T
 obtain ⟨n,rfl⟩ : ∃ n,N = n + 2:=⟨N - 2,by omega⟩
 rw [pcall_step (by rfl) (by rfl),f16_btree_Tree_Delete_eq]
 unfold f16_btree_Tree_Delete
 dsimp only at ho hs hc hN hN2 ⊢
 change (flat d t).length ≤ _ at hc
 change Sorted (flat d t) at hs
 change _ = some ([vB (has key (flat d t))],_)
 have h26:=s26 (n + 1) d t key ho hs (by omega)
 cases hh : has key (flat d t) with
 | false =>
   have hd : delB ⟨d,t⟩ key = ⟨d,t⟩:=by unfold delB;exact if_neg (by show ¬ has key (flat d t) = true;rw [hh];simp)
   rw [hh] at h26
   simp only [h26,callB_some,ok334,okOuts25,needB_true,List.headD_cons,List.tail_cons,fvF,pvF,toB_bool,Bool.not_false,ifB_t,cells_box,deref_ptr,hd,xsO,spO]
 | true =>
   have h30:=s30 d (n + 1) t key ho hs hc hh (by omega) (by omega)
   rw [hh] at h26
   cases d with
   | zero =>
     have hd : delB ⟨0,t⟩ key = ⟨0,wo 0 t key⟩:=by unfold delB;exact if_pos hh
     have cz : ((((([] : List PV).length : Nat) : Int)) == (1 : Int)) = false:=rfl
     simp only [h26,callB_some,ok334,okOuts25,needB_true,List.headD_cons,List.tail_cons,fvF,pvF,toB_bool,Bool.not_true,ifB_f,cells_box,deref_ptr,h30,ok55,okOuts55,isS,hasT63,Bool.and_self,cells_pg,toL_sl,bsOf_zero,cz,hd,xsO,spO]
   | succ d =>
     have hw:=wo_all (d + 1) t key ho hs hh
     by_cases h1 : (wo (d + 1) t key : List (Tr d)).length = 1
     · obtain ⟨b,hb⟩ : ∃ b,(wo (d + 1) t key : List (Tr d)) = [b]:=List.length_eq_one_iff.1 h1
       have hd : delB ⟨d + 1,t⟩ key = ⟨d,b⟩:=by
        unfold delB
        refine (if_pos hh).trans ?_
        dsimp only
        rw [hb]
       have c1 : (0 : Int) < (((List.map (enc d) [b]).length : Nat) : Int):=by simp
       have h0 : [b][0]? = some b:=rfl
       have hbs : bsOf (d + 1) (wo (d + 1) t key) = List.map (enc d) [b]:=by rw [bsOf_succ,hb]
       have cz : ((((List.map (enc d) [b]).length : Nat) : Int) == (1 : Int)) = true:=rfl
       simp only [h26,callB_some,ok334,okOuts25,needB_true,List.headD_cons,List.tail_cons,fvF,pvF,toB_bool,Bool.not_true,ifB_f,ifB_t,cells_box,deref_ptr,h30,ok55,okOuts55,isS,hasT63,Bool.and_self,cells_pg,toL_sl,hbs,cz,c1,decide_true,nthP_map (enc d) h0,hasT55e,deref_enc,hd,xsO,spO]
     · have hd : delB ⟨d + 1,t⟩ key = ⟨d + 1,wo (d + 1) t key⟩:=by
        unfold delB
        refine (if_pos hh).trans ?_
        dsimp only
        split
        · rename_i b hb;rw [hb] at h1;exact absurd rfl h1
        · rfl
       have cz : ((((List.map (enc d) (wo (d + 1) t key : List (Tr d))).length : Nat) : Int) == (1 : Int)) = false:=list_none _ (by rw [List.length_map];exact h1)
       simp only [h26,callB_some,ok334,okOuts25,needB_true,List.headD_cons,List.tail_cons,fvF,pvF,toB_bool,Bool.not_true,ifB_f,ifB_t,cells_box,deref_ptr,h30,ok55,okOuts55,isS,hasT63,Bool.and_self,cells_pg,toL_sl,bsOf_succ,cz,hd,xsO,spO]
end Go.Proofs.Ytnieankaikhmnaa.P2

set_option linter.unusedVariables false
set_option linter.unusedSimpArgs false
namespace Go.Proofs.Ytnieankaikhmnaa
open Go Go.Ev Go.T14
theorem getR_fnd {k : List UInt8} {l : List Ent} (hs : Sorted l) : getR k l = (fnd k l).v:=by
 have h:=getL_at (k:=k) hs
 unfold fnd getR
 rw [h]
 cases hh : has k l with
 | true =>
   obtain ⟨e,he,hk,_⟩:=has_at hs hh
   rw [he]
   simp only [if_true,Option.getD_some]
   rw [if_pos hk]
 | false =>
   rw [if_neg (by simp)]
   rw [has_ltc hs] at hh
   cases he : l[ltc k l]? with
   | none => rfl
   | some e =>
     rw [he] at hh
     simp only at hh ⊢
     rw [if_neg (by simpa using hh)]
     rfl
end Go.Proofs.Ytnieankaikhmnaa
namespace Go.Proofs.Ytnieankaikhmnaa.P2
open Go Go.Ev Go.T14
theorem s32 (n : Nat) (k : List UInt8) (h : k.length ≤ big) : pcall C (n + 1) 32 [vR k] = some ([vS k],[]):=by
 rw [pp (by rfl),Ytnieankaikhmnaa.pcall_prim (n:=4999) (p:=primLent) (by rfl)]
 unfold primLent
 have : Nat.ble ((bb k).length + 1) 140737488355328 = true:=by rw [Nat.ble_eq,List.length_map];unfold big at h;omega
 simp only [bb_isByte,this,Bool.and_self]
theorem s38 (n : Nat) (k : List UInt8) (h : k.length ≤ big) : pcall C (n + 1) 38 [vS k,vR k] = some ([vB true],[vS k,gg]):=by
 rw [pp (by rfl),Ytnieankaikhmnaa.pcall_prim (n:=4999) (p:=primKept) (by rfl)]
 unfold primKept
 have h1 : Nat.ble ((bb k).length + 1) 140737488355328 = true:=by rw [Nat.ble_eq,List.length_map];unfold big at h;omega
 have h2 : isByte (.int .u8 77) = true:=by decide
 have h3 : ((PV.toI (.int .u8 77)) == (77 : Int)) = true:=by decide
 simp only [bb_isByte,h1,h2,h3,Bool.and_self,beq_self_eq_true]
theorem s36 (n : Nat) (cs : List FV) (h1 : cs.all isRowB = true) (h2 : cs.length ≤ 1000000) : pcall C (n + 1) 36 [.cont .nest cs] = some ([vB true],[gg]):=by
 rw [pp (by rfl),Ytnieankaikhmnaa.pcall_prim (n:=4999) (p:=primOwned) (by rfl)]
 unfold primOwned
 have : Nat.ble cs.length 1000000 = true:=by rw [Nat.ble_eq];exact h2
 simp only [h1,this,Bool.and_self]
theorem s12 (n : Nat) (a b : List Ent) (hl : a.length ≤ 1000) : pcall C (n + 1) 12 [vEs a,vEs b] = some ([vB (decide (a = b))],[]):=by
 rw [pp (by rfl)]
 exact Ytnieankaikhmnaa.s12 5000 a b (by omega) (by omega)
theorem s33 (n : Nat) (l : List Ent) (e : Ent) (hs : Sorted l) (hl : l.length ≤ 1000) (hk : e.k.length ≤ big) (hv : e.v.length ≤ big) : pcall C (n + 1) 33 [xB l,vR e.k,vR e.v] = some ([vB (has e.k l)],[xB (insL e l),gg,gg]):=by
 rw [pp (by rfl)];exact Ytnieankaikhmnaa.s33 3989 l e hs hl hk hv
theorem s34 (n : Nat) (l : List Ent) (k : List UInt8) (hs : Sorted l) (hl : l.length ≤ 1000) : pcall C (n + 1) 34 [xB l,vR k] = some ([vB (has k l)],[xB (delL k l),gg]):=by
 rw [pp (by rfl)];exact Ytnieankaikhmnaa.s34 3989 l k hs hl
theorem s35 (n : Nat) (l : List Ent) (k : List UInt8) (hs : Sorted l) (hl : l.length ≤ 1000) (hsh : Short big l) : pcall C (n + 1) 35 [xB l,vR k] = some ([vO (fnd k l).v,vB (has k l)],[xB l,gg]):=by
 rw [pp (by rfl),← getR_fnd hs];exact Ytnieankaikhmnaa.s35 3989 l k hs hl hsh
theorem s37 (n : Nat) (s : Sp) (l : List Ent) (hl : l.length ≤ 1000) : pcall C (n + 1) 37 [xB l,.flat (.val (.agg [.sl none (bb s.f),.sl none (bb s.t),.bool s.e]))] = some ([vEo (rangeL s l)],[xB l,gg]):=by
 rw [pp (by rfl)];exact Ytnieankaikhmnaa.s37 3989 s l hl
theorem s10 (n : Nat) {m : Nat} {T : BT} (s : Sp) (h : Inv m T) (hm : m ≤ 1000) : pcall C (n + 1) 10 [tBt T,.flat (.val (.agg [.sl none (bb s.f),.sl none (bb s.t),.bool s.e]))] = some ([.cont .ents (partsE (rangeL s T.flat))],[tBt T]):=by
 rw [pcall_prim (p:=T14.primRangeE) (by rfl)]
 have:=primRangeE_eq s (h.good hm)
 rw [enc_eq] at this
 exact this
theorem parts_rows (l : List Ent) : (partsE l).all isRowB = true:=by
 rw [List.all_eq_true]
 intro x hx
 obtain ⟨e,_,he⟩:=List.mem_flatMap.1 hx
 rcases List.mem_cons.1 he with rfl | he
 · rfl
 · rcases List.mem_cons.1 he with rfl | he
   · rfl
   · cases he
theorem parts_len (l : List Ent) : (partsE l).length = 2 * l.length:=by
 induction l with
 | nil => rfl
 | cons e l ih => show (partsE l).length + 2 = _;rw [ih,List.length_cons];omega
theorem s20 (n : Nat) (l : List Ent) (h : l.length ≤ 1000) : pcall C (n + 1) 20 [.cont .ents (partsE l)] = some ([],[gg]):=by
 rw [pcall_prim (p:=T14.primSpoil) (by rfl)]
 unfold primSpoil
 have : Nat.ble (partsE l).length 1000000 = true:=by rw [Nat.ble_eq,parts_len];omega
 simp only [parts_rows,this,Bool.and_self]
theorem okS1 (k : List UInt8) : okOs Try.prog [23] [.os] [vS k] = true:=by
 show (okO Try.prog 23 .os (vS k) && true) = true
 rw [okS];rfl
theorem okP3 (v : PV) (k k' : List UInt8) : okOuts Try.prog [25,23,23] [.io (.b [false]),.io .os,.io .os] [.cont .box [.val (.ptr (some 3) v)],vS k,vS k'] = true:=by
 have h : okO Try.prog 25 (.b [false]) (.cont .box [.val (.ptr (some 3) v)]) = true:=by kernel_rfl
 show (okO Try.prog 25 (.b [false]) (.cont .box [.val (.ptr (some 3) v)]) && (okO Try.prog 23 .os (vS k) && (okO Try.prog 23 .os (vS k') && true))) = true
 rw [h,okS,okS];rfl
theorem okX33 (l : List Ent) : okOuts Try.prog [42,23,23] [.io (.b [true]),.ro,.ro] [xB l,gg,gg] = true:=by
 show (okO Try.prog 42 (.b [true]) (xB l) && true) = true
 rw [okO42];rfl
theorem okX30 (l : List Ent) : okOuts Try.prog [42,30] [.io (.b [true]),.ro] [xB l,gg] = true:=by
 show (okO Try.prog 42 (.b [true]) (xB l) && true) = true
 rw [okO42];rfl
theorem okK (k : List UInt8) : okOuts Try.prog [23,23] [.io .os,.ro] [vS k,gg] = true:=by
 show (okO Try.prog 23 .os (vS k) && true) = true
 rw [okS];rfl
theorem okE (cs : List FV) : okOs Try.prog [27] [.e] [.cont .ents cs] = true:=rfl
theorem okN : okOs Try.prog [] [] [] = true:=rfl
set_option maxHeartbeats 2000000 in
theorem s19 (N m : Nat) (T : BT) (a : AN) (h : Inv m T) (hm : m ≤ 900) (hk : a.k.length ≤ big) (hv : a.v.length ≤ big) (hN : 1100 ≤ N) (hN2 : N ≤ 4900) :
 pcall C N 19 [tBt T,xB T.flat,.flat (.val (actV a))] = some ([vB true],[tBt (stepB T a),xB (stepB T a).flat,gg]):=by
 obtain ⟨n,rfl⟩ : ∃ n,N = n + 3:=⟨N - 3,by omega⟩
 have hd:=deep_of h (by omega)
 have hl:=h.len
 rw [pcall_step (n:=n + 2) (by rfl) (by rfl),show actV a = .agg [.int .i64 a.d,.sl none (bb a.k),.sl none (bb a.v),.sl none (bb a.s.f),.sl none (bb a.s.t),.bool a.s.e] from rfl,f19_vestrylaw14_act_eq]
 unfold f19_vestrylaw14_act
 have r2 : ∀ k k' : List UInt8,([FV.own none (bb k) [.int .u8 77],FV.own none (bb k') [.int .u8 77]] : List FV).all isRowB = true:=fun _ _ => rfl
 have o36:=fun k k' : List UInt8 => s36 (n + 1) [FV.own none (bb k) [.int .u8 77],FV.own none (bb k') [.int .u8 77]] (r2 k k') (by simp)
 have o36':=fun k : List UInt8 => s36 (n + 1) [FV.own none (bb k) []] (by rfl) (by simp)
 have hkk:=s38 (n + 1) a.k hk
 have hvv:=s38 (n + 1) a.v hv
 by_cases c0 : a.d = 0
 · have b0 : (a.d == (0 : Int)) = true:=by simp [c0]
   have h15:=s15 (n + 2) T ⟨a.k,a.v⟩ h.okr h.sorted (by omega) hk hv (by omega)
   have h33:=s33 (n + 1) T.flat ⟨a.k,a.v⟩ h.sorted (by omega) hk hv
   have e1 : stepB T a = putB T ⟨a.k,a.v⟩:=by unfold stepB;simp [c0]
   rw [e1,(putB_flat h.okr h.sorted).1]
   simp only [s32 (n + 1) a.k hk,s32 (n + 1) a.v hv,callB_some,okS1,needB_true,b0,ifB_t,List.headD_cons,List.tail_cons,fvF,xsO,spO,h15,ok4,okP3,h33,okX33,hkk,hvv,okK,pvF,toB_bool,o36,beq_self_eq_true,cells_x,deref_ptr]
 · have b0 : (a.d == (0 : Int)) = false:=by simp [c0]
   by_cases c1 : a.d = 1
   · have b1 : (a.d == (1 : Int)) = true:=by simp [c1]
     have h16:=s16 (n + 2) T a.k h.okr h.sorted (by omega) (by omega)
     have h34:=s34 (n + 1) T.flat a.k h.sorted (by omega)
     have e1 : stepB T a = delB T a.k:=by unfold stepB;simp [c1]
     rw [e1,(delB_flat h.okr h.sorted).1]
     simp only [s32 (n + 1) a.k hk,s32 (n + 1) a.v hv,callB_some,okS1,needB_true,b0,b1,ifB_t,ifB_f,List.headD_cons,List.tail_cons,fvF,xsO,spO,h16,ok4,okOuts25,h34,okX2,hkk,hvv,okK,pvF,toB_bool,o36,beq_self_eq_true,cells_x,deref_ptr]
   · have b1 : (a.d == (1 : Int)) = false:=by simp [c1]
     have e1 : stepB T a = T:=by unfold stepB;simp [c0,c1]
     rw [e1]
     by_cases c2 : a.d = 2
     · have b2 : (a.d == (2 : Int)) = true:=by simp [c2]
       have h13:=s13 (n + 2) T.d T.t a.k h.okr h.sorted h.short (by omega)
       have h35:=s35 (n + 1) T.flat a.k h.sorted (by omega) h.short
       simp only [s32 (n + 1) a.k hk,s32 (n + 1) a.v hv,callB_some,okS1,needB_true,b0,b1,b2,ifB_t,ifB_f,List.headD_cons,List.tail_cons,fvF,xsO,spO,h13,ok234,okOuts25,h35,okX2,bb_isByte,ok4,hkk,hvv,okK,pvF,toB_bool,o36,o36',beq_self_eq_true,cells_x,deref_ptr]
     · have b2 : (a.d == (2 : Int)) = false:=by simp [c2]
       by_cases c3 : a.d = 3
       · have b3 : (a.d == (3 : Int)) = true:=by simp [c3]
         have h10:=s10 (n + 1) a.s h (by omega)
         have h37:=s37 (n + 1) a.s T.flat (by omega)
         have hrl : (rangeL a.s T.flat).length ≤ T.flat.length:=List.length_filter_le _ _
         have h12:=s12 (n + 1) (rangeL a.s T.flat) (rangeL a.s T.flat) (by omega)
         have h20:=s20 (n + 1) (rangeL a.s T.flat) (by omega)
         have h27 : okOs Try.prog [27] [.o] [vEo (rangeL a.s T.flat)] = true:=ok27 _
         simp only [s32 (n + 1) a.k hk,s32 (n + 1) a.v hv,callB_some,okS1,needB_true,b0,b1,b2,b3,ifB_t,ifB_f,List.headD_cons,List.tail_cons,fvF,xsO,spO,h10,okE,okOuts30,h37,h27,okX30,cells_x,twos_parts,h12,ok4,h20,okN,hkk,hvv,okK,pvF,toB_bool,o36,decide_true,deref_ptr]
       · have b3 : (a.d == (3 : Int)) = false:=by simp [c3]
         simp only [s32 (n + 1) a.k hk,s32 (n + 1) a.v hv,callB_some,okS1,needB_true,b0,b1,b2,b3,ifB_f,ifB_t,List.headD_cons,List.tail_cons,fvF,xsO,spO,hkk,hvv,ok4,okK,pvF,toB_bool,o36]
end Go.Proofs.Ytnieankaikhmnaa.P2

set_option linter.unusedVariables false
set_option linter.unusedSimpArgs false
namespace Go.Proofs.Ytnieankaikhmnaa.P3
open Go Go.Ev Go.T14
theorem pcall_step {n : Nat} {f : FuncId} {args : List OV} (h : C.prim f = none) (hf : C.frz f = []) : pcall C (n + 1) f args = callBody C (pcall C n) n f args:=by
 show (match C.prim f with
  | some p => p args
  | none => frzM (C.frz f) (callBody C (pcall C n) n f args)) = _
 rw [h,hf]
 exact frzM_nil _
theorem pcall_prim {n : Nat} {f : FuncId} {args : List OV} {p : List OV → Option (List OV × List OV)} (h : C.prim f = some p) : pcall C (n + 1) f args = p args:=by
 show (match C.prim f with
  | some p => p args
  | none => frzM (C.frz f) (callBody C (pcall C n) n f args)) = _
 rw [h]
theorem pp {g : FuncId} (hg : C.prim g = some (pcall Ytnieankaikhmnaa.C 5000 g)) (n : Nat) (args : List OV) : pcall C (n + 1) g args = pcall Ytnieankaikhmnaa.C 5000 g args:=pcall_prim hg
theorem s8 (n : Nat) : pcall C (n + 1) 8 [] = some ([vB true],[]):=by rw [pp (by rfl)];exact Ytnieankaikhmnaa.s8 5000 (by omega)
theorem s17 (n : Nat) : pcall C (n + 1) 17 [] = some ([tB 0 []],[]):=by rw [pp (by rfl)];exact Ytnieankaikhmnaa.s17 4998
theorem s18 (n : Nat) (T : BT) : pcall C (n + 1) 18 [tBt T] = some ([tBt T],[tBt T]):=by rw [pp (by rfl)];exact s18' 4999 T
theorem s14 (n : Nat) (T : BT) : pcall C (n + 1) 14 [tBt T] = some ([vI (T.flat.length : Int)],[tBt T]):=by rw [pp (by rfl)];exact s14' 4999 T
theorem s15 (n m : Nat) {T : BT} (h : Inv m T) (hm : m ≤ 900) {e : Ent} (hk : e.k.length ≤ big) (hv : e.v.length ≤ big) : pcall C (n + 1) 15 [tBt T,vR e.k,vR e.v] = some ([vB (has e.k T.flat)],[tBt (putB T e),gg,gg]):=by
 rw [pp (by rfl)]
 have hd:=deep_of h (by omega)
 have hl:=h.len
 exact Ytnieankaikhmnaa.s15 5000 T e h.okr h.sorted (by omega) hk hv (by omega)
theorem s19 (n m : Nat) (T : BT) (a : AN) (h : Inv m T) (hm : m ≤ 900) (hk : a.k.length ≤ big) (hv : a.v.length ≤ big) : pcall C (n + 1) 19 [tBt T,xB T.flat,.flat (.val (actV a))] = some ([vB true],[tBt (stepB T a),xB (stepB T a).flat,gg]):=by
 rw [pcall_prim (p:=pcall P2.C 4000 19) (by rfl)]
 exact P2.s19 4000 m T a h hm hk hv (by omega) (by omega)
theorem s12 (n : Nat) (a b : List Ent) (hl : a.length ≤ 1000) : pcall C (n + 1) 12 [vEs a,vEs b] = some ([vB (decide (a = b))],[]):=by
 rw [pp (by rfl)]
 exact Ytnieankaikhmnaa.s12 5000 a b (by omega) (by omega)
theorem s10 (n : Nat) {m : Nat} {T : BT} (h : Inv m T) (hm : m ≤ 1000) : pcall C (n + 1) 10 [tBt T,.flat (.val (.agg [.sl none [],.sl none [],.bool false]))] = some ([.cont .ents (partsE T.flat)],[tBt T]):=by
 rw [pcall_prim (p:=T14.primRangeE) (by rfl)]
 have:=primRangeE_eq ⟨[],[],false⟩ (h.good hm)
 rw [enc_eq] at this
 have e : rangeL ⟨[],[],false⟩ (flat T.d T.t) = flat T.d T.t:=List.filter_eq_self.2 fun x _ => by
  have : Op.bytesLess x.k [] = false:=by cases x.k <;> rfl
  simp [inSp,this]
 rw [e] at this
 exact this
theorem s20 (n : Nat) (l : List Ent) (h : l.length ≤ 1000) : pcall C (n + 1) 20 [.cont .ents (partsE l)] = some ([],[gg]):=by
 rw [pcall_prim (p:=T14.primSpoil) (by rfl)]
 unfold primSpoil
 have : Nat.ble (partsE l).length 1000000 = true:=by rw [Nat.ble_eq,P2.parts_len];omega
 simp only [P2.parts_rows,this,Bool.and_self]
theorem okA (v : PV) (l : List Ent) : okOuts Try.prog [25,42,46] [.io (.b [false]),.io (.b [true]),.ro] [.cont .box [.val (.ptr (some 3) v)],xB l,gg] = true:=by
 have h : okO Try.prog 25 (.b [false]) (.cont .box [.val (.ptr (some 3) v)]) = true:=by kernel_rfl
 show (okO Try.prog 25 (.b [false]) (.cont .box [.val (.ptr (some 3) v)]) && (okO Try.prog 42 (.b [true]) (xB l) && true)) = true
 rw [h,okO42];rfl
theorem plays_loop (N n : Nat) (acts : List AN) (hA : ShortA acts) (hl : acts.length ≤ 100000000) : ∀ (m i : Nat) (T : BT),i ≤ 80 → i ≤ acts.length → Inv i T → 80 - i < m →
 f5_vestrylaw14_BtreePlays.l0 (pcall C (N + 1)) n m (acts.map actV) (pgOf T.d T.t) (T.flat.map entV) (i : Int) = some ([vB true],[])
 | 0,i,_,_,_,_,h => by omega
 | m + 1,i,T,hi,hil,hT,h => by
   show f5_vestrylaw14_BtreePlays.l0.step _ _ (f5_vestrylaw14_BtreePlays.l0 _ _ m) _ _ _ _ = _
   unfold f5_vestrylaw14_BtreePlays.l0.step
   have hln:=hT.len
   have h10:=s10 N hT (by omega)
   have h12:=s12 N T.flat T.flat (by omega)
   have h20:=s20 N T.flat (by omega)
   have tail : ∀ x : Option (List OV × List OV),x = some ([vB true],[]) → x = some ([vB true],[]):=fun _ h => h
   by_cases hlt : i < acts.length
   · by_cases h80 : i < 80
     · have hx : acts[i]? = some acts[i]:=List.getElem?_eq_getElem hlt
       have hmem : acts[i] ∈ acts:=List.getElem_mem hlt
       generalize acts[i] = a at hx hmem
       obtain ⟨hk,hv⟩:=hA a hmem
       have he:=plays_loop N n acts hA hl m (i + 1) (stepB T a) (by omega) (by omega) (hT.step hk hv) (by omega)
       have c1 : (i : Int) < (((acts.map actV).length : Nat) : Int):=by rw [List.length_map];omega
       have c2 : (0 : Int) ≤ (i : Int):=by omega
       have c3 : ((i : Int) < (80 : Int)):=by omega
       have w2 : IntKind.wrap .i64 ((i : Int) + 1) = ((i + 1 : Nat) : Int):=wrap_succ (by omega)
       have h15:=s15 N i (e:=⟨a.k,a.v⟩) hT (by omega) hk hv
       have h19:=s19 N i T a hT (by omega) hk hv
       rw [show actV a = .agg [.int .i64 a.d,.sl none (bb a.k),.sl none (bb a.v),.sl none (bb a.s.f),.sl none (bb a.s.t),.bool a.s.e] from rfl] at h19
       have h14:=s14 N (stepB T a)
       have h18:=s18 N T
       have hn : (((stepB T a).flat.length : Int) != ((((stepB T a).flat.map entV).length : Nat) : Int)) = false:=by simp
       by_cases h4 : a.d = 4
       · have e4 : (a.d == (4 : Int)) = true:=by simpa using h4
         simp only [c1,c2,c3,decide_true,ifB_t,ifB_f,needB_true,Int.toNat_natCast,nthP_map actV hx,hasT46,cells_act,List.headD_cons,List.tail_cons,toI_int,toL_sl,toB_bool,e4,h18,callB_some,ok25b,okOuts1,cells_box,pvF,fvF,deref_ptr,h15,ok4,okOuts255,h19,okA,Bool.not_true,h14,ok3,xsO,hn,w2,he]
       · have e4 : (a.d == (4 : Int)) = false:=by simpa using h4
         simp only [c1,c2,c3,decide_true,ifB_t,ifB_f,needB_true,Int.toNat_natCast,nthP_map actV hx,hasT46,cells_act,List.headD_cons,List.tail_cons,toI_int,toL_sl,toB_bool,e4,callB_some,cells_box,pvF,fvF,deref_ptr,ok4,h19,okA,Bool.not_true,h14,ok3,okOuts1,xsO,hn,w2,he]
     · have c1 : (i : Int) < (((acts.map actV).length : Nat) : Int):=by rw [List.length_map];omega
       have c3 : ¬ ((i : Int) < (80 : Int)):=by omega
       simp only [c1,c3,decide_true,decide_false,ifB_t,ifB_f,h10,callB_some,P2.okE,needB_true,okOuts30,List.headD_cons,cells_box,cells_x,twos_parts,h12,ok4,h20,P2.okN,fvF,pvF,toB_bool,deref_ptr]
   · have c1 : ¬ ((i : Int) < (((acts.map actV).length : Nat) : Int)):=by rw [List.length_map];omega
     simp only [c1,decide_true,decide_false,ifB_t,ifB_f,h10,callB_some,P2.okE,needB_true,okOuts30,List.headD_cons,cells_box,cells_x,twos_parts,h12,ok4,h20,P2.okN,fvF,pvF,toB_bool,deref_ptr]
theorem s5 (acts : List AN) (hA : ShortA acts) (hl : acts.length ≤ 100000000) : pcall C 3000 5 [vAs acts] = some ([vB true],[]):=by
 rw [pcall_step (n:=2999) (by rfl) (by rfl),f5_vestrylaw14_BtreePlays_eq]
 unfold f5_vestrylaw14_BtreePlays f5_vestrylaw14_BtreePlays.pre
 have h8:=s8 2998
 have h17:=s17 2998
 have he:=plays_loop 2998 2999 acts hA hl 2999 0 ⟨0,[]⟩ (Nat.zero_le _) (Nat.zero_le _) inv0 (by omega)
 rw [show ((0 : Nat) : Int) = (0 : Int) from rfl] at he
 simp only [h8,callB_some,ok4,needB_true,h17,ok25b,List.headD_cons,fvF,pvF,toB_bool,Bool.not_true,ifB_f,cells_box,deref_ptr]
 exact he
end Go.Proofs.Ytnieankaikhmnaa.P3

