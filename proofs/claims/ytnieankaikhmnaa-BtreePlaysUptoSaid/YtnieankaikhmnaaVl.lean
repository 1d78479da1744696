/- What the functions answer, and the laws. -/
import Derived.Test.YtnieankaikhmnaaVi
import Derived.Test.YtnieankaikhmnaaProg
import Derived.WalkKit
import Derived.WalkSpells
import Derived.WalkLawsBesides
import Derived.Lib.Strings
import Derived.Lib.Slices
import Derived.Lib.Walk
import Derived.Lib.Bytealg
import Derived.ProofKit
import Derived.Laws.CopyRow
import Derived.Laws.CopyOwn
import Derived.Shelf.Bytes.SlClone
import Derived.LoopTactic
import Derived.RegionTactic
import Derived.Deep.QuietTactic
import Derived.BigQuiet

set_option linter.unusedVariables false

set_option linter.unusedSimpArgs false

set_option linter.unusedSectionVars false

open Go Go.Ev
namespace Go.Proofs.Ytnieankaikhmnaa
open Go.RowKit Go.Shelf
theorem t22s : Try.prog.underlying 23 = some (.slice 5):=by kernel_rfl
set_option maxHeartbeats 2000000 in
set_option maxRecDepth 100000 in
theorem lent_some (a : Addr) (n c : Nat) (xs : List Int) (w : World) (hx : xs.length = n) (hbig : n + 1 ≤ 140737488355328) (hc : ∀ i,i < n → w.cell? (a.add i) = some (.int .u8 (xs.getD i 0))) :
 Calls Try.prog 32 #[.slice (some a) n c] w fun e w' => ∃ v',e = .returned v' ∧ NewRow w w' (xs.map (PV.int .u8)) [.int .u8 77] v':=by
 obtain ⟨i0,hi,hz0,hz1,hz2⟩:=info_parts (P:=Try.prog) (e:=5) (z := .int .u8 0) (size:=1) (bytes:=1) (by kernel_rfl)
 go_enter Try.func32,Try.ntmps32
 go_wp2
 rw [run_make w 23 5 i0 (.int .u8 0) t22s hi hz0 .i64 .i64 (n : Int) ((n : Int) + 1) (by omega) (by omega) (by rw [hz2];omega) (by omega)]
 have hcz : ((n : Int) + 1).toNat * i0.size = n + 1:=by rw [hz1];omega
 rw [hcz]
 simp only [Result.andThen]
 rw [Oper.upon_value]
 go_wp2
 have hcur:=alloc_heap w (Obj.cells (madeCells #[Value.int .u8 0] (n + 1)) 5)
 have hB:=(Below.refl w.heap.size w).alloc (Nat.le_refl _) (Obj.cells (madeCells #[Value.int .u8 0] (n + 1)) 5)
 have hsrc : ∀ j v,(xs.map (Value.int .u8))[j]? = some v → (w.alloc (Obj.cells (madeCells #[Value.int .u8 0] (n + 1)) 5)).cell? (a.add j) = some v:=by
  intro j v hj
  have hjn : j < n:=by
   have:=(List.getElem?_eq_some_iff.1 hj).1
   simp at this
   omega
  refine Lib.cell?_alloc_some _ ?_
  rw [hc j hjn]
  rw [← hj]
  simp [List.getD,List.getElem?_eq_getElem (show j < xs.length by omega)]
 generalize w.alloc (Obj.cells (madeCells #[Value.int .u8 0] (n + 1)) 5) = w1 at hcur hsrc hB ⊢
 have hsz : (madeCells #[Value.int .u8 0] (n + 1)).size = n + 1:=size_madeCells _ _
 generalize madeCells #[Value.int .u8 0] (n + 1) = cur at hcur hsz
 have hcp:=run_copy_row (P:=Try.prog) w1 23 23 3 5 w.heap.size 0 n (n + 1) a n c cur 5 (xs.map (Value.int .u8)) t22s (by rw [hi];simp [hz1]) hcur (by simp [hx]) hsrc (by simp [hx,hsz]) (by intro v hv;obtain ⟨x,_,rfl⟩:=List.mem_map.1 hv;rfl)
 rw [hcp]
 simp only [Result.andThen]
 rw [Oper.upon_value]
 have hB2:=Go.below_setRow hB (Nat.le_refl _) (cur.toList.take 0 ++ xs.map (Value.int .u8) ++ cur.toList.drop (0 + (xs.map (Value.int .u8)).length)).toArray
 have hg2:=setRow_heap w1 w.heap.size cur (cur.toList.take 0 ++ xs.map (Value.int .u8) ++ cur.toList.drop (0 + (xs.map (Value.int .u8)).length)).toArray 5 (0,0) hcur
 generalize w1.setRow w.heap.size (cur.toList.take 0 ++ xs.map (Value.int .u8) ++ cur.toList.drop (0 + (xs.map (Value.int .u8)).length)).toArray = w2 at hB2 hg2 ⊢
 generalize hrow : (cur.toList.take 0 ++ xs.map (Value.int .u8) ++ cur.toList.drop (0 + (xs.map (Value.int .u8)).length)).toArray = row at hg2
 have hrs : row.size = n + 1:=by rw [← hrow];simp [hx,hsz]
 have hcell : w2.cell? ⟨w.heap.size,n,none⟩ = some (row.getD n Go.undef):=by
  simp [World.cell?,hg2,Array.getD_eq_getD_getElem?,hrs]
 have hfz : w2.frozen? ⟨w.heap.size,n,none⟩ = false:=by simp [World.frozen?,hg2]
 go_wp2
 go_ret
 have hg3:=setCell_heap w2 w.heap.size n row (.int .u8 77) 5 (0,0) hg2
 have hB3:=hB2.setCell (p:=⟨w.heap.size,n,none⟩) (Nat.le_refl _) (.int .u8 77)
 refine ⟨_,rfl,hB3.os,hB3.tape,hB3.output,hB3.size,hB3.block,.inr ⟨w.heap.size,n + 1,_,5,(0,0),by simp [hx],Nat.le_refl _,hg3,rfl,by simp [hrs],by simp [hx],by omega,fun i x hi' => ?_,fun j y hj => ?_⟩⟩
 · rw [List.getElem?_map] at hi'
   cases hxi : xs[i]? with
   | none => rw [hxi] at hi';cases hi'
   | some z =>
     rw [hxi] at hi'
     cases hi'
     have hil:=(List.getElem?_eq_some_iff.1 hxi).1
     refine ⟨.int .u8 z,?_,fun _ _ => .int _ _⟩
     have hne : ¬ n = i:=by omega
     rw [Array.getElem?_setIfInBounds,if_neg hne,← hrow]
     simp [List.getElem?_append,hil]
     exact (List.getElem?_eq_some_iff.1 hxi).2
 · cases j with
   | zero =>
     simp at hj
     subst hj
     refine ⟨.int .u8 77,?_,fun _ _ => .int _ _⟩
     rw [Array.getElem?_setIfInBounds]
     simp [hx,hrs]
   | succ j => simp at hj
set_option maxHeartbeats 2000000 in
set_option maxRecDepth 100000 in
theorem lent_none (w : World) : Calls Try.prog 32 #[.slice none 0 0] w fun e w' => ∃ v',e = .returned v' ∧ NewRow w w' [] [.int .u8 77] v':=by
 obtain ⟨i0,hi,hz0,hz1,hz2⟩:=info_parts (P:=Try.prog) (e:=5) (z := .int .u8 0) (size:=1) (bytes:=1) (by kernel_rfl)
 go_enter Try.func32,Try.ntmps32
 go_wp2
 rw [run_make w 23 5 i0 (.int .u8 0) t22s hi hz0 .i64 .i64 0 1 (by omega) (by omega) (by rw [hz2];omega) (by omega)]
 have hcz : (1 : Int).toNat * i0.size = 1:=by rw [hz1];rfl
 rw [hcz]
 simp only [Result.andThen]
 rw [Oper.upon_value]
 go_wp2
 have hcur:=alloc_heap w (Obj.cells (madeCells #[Value.int .u8 0] 1) 5)
 have hB:=(Below.refl w.heap.size w).alloc (Nat.le_refl _) (Obj.cells (madeCells #[Value.int .u8 0] 1) 5)
 generalize w.alloc (Obj.cells (madeCells #[Value.int .u8 0] 1) 5) = w1 at hcur hB ⊢
 have hsz : (madeCells #[Value.int .u8 0] 1).size = 1:=size_madeCells _ _
 generalize madeCells #[Value.int .u8 0] 1 = cur at hcur hsz
 rw [run_copy_none (P:=Try.prog) w1 23 23 3 5 (some ⟨w.heap.size,0,none⟩) none 0 1 0 0 t22s (by rw [hi];simp [hz1]) rfl]
 simp only [Result.andThen]
 rw [Oper.upon_value]
 have hcell : w1.cell? ⟨w.heap.size,0,none⟩ = some (cur.getD 0 Go.undef):=by
  simp [World.cell?,hcur,Array.getD_eq_getD_getElem?,hsz]
 have hfz : w1.frozen? ⟨w.heap.size,0,none⟩ = false:=by simp [World.frozen?,hcur]
 go_wp2
 go_ret
 have hg3:=setCell_heap w1 w.heap.size 0 cur (.int .u8 77) 5 (0,0) hcur
 have hB3:=hB.setCell (p:=⟨w.heap.size,0,none⟩) (Nat.le_refl _) (.int .u8 77)
 refine ⟨_,rfl,hB3.os,hB3.tape,hB3.output,hB3.size,hB3.block,.inr ⟨w.heap.size,1,_,5,(0,0),rfl,Nat.le_refl _,hg3,rfl,by simp [hsz],by simp,by omega,fun i x hi' => by simp at hi',fun j y hj => ?_⟩⟩
 cases j with
 | zero =>
   simp at hj
   subst hj
   refine ⟨.int .u8 77,?_,fun _ _ => .int _ _⟩
   rw [Array.getElem?_setIfInBounds]
   simp [hsz]
 | succ j => simp at hj
set_option maxHeartbeats 2000000 in
set_option maxRecDepth 100000 in
theorem clone_some (a : Addr) (n c : Nat) (xs : List Int) (w : World) (hx : xs.length = n) (hbig : n ≤ 140737488355328) (hc : ∀ i,i < n → w.cell? (a.add i) = some (.int .u8 (xs.getD i 0))) :
 Calls Try.prog 27 #[.slice (some a) n c] w fun e w' => ∃ v',e = .returned v' ∧ w'.ownsRow w.heap.size 5 1 v' n (xs.map (Value.int .u8)) ∧ Below w.heap.size w w':=by
 obtain ⟨i0,hi,hz0,hz1,hz2⟩:=info_parts (P:=Try.prog) (e:=5) (z := .int .u8 0) (size:=1) (bytes:=1) (by kernel_rfl)
 have q22 : ∀ (w : World) (a : Option Addr) (n c n' c' : Nat),(binOp .eql 23 (.slice a n c) (.slice none n' c')).run Try.prog w = .ok (.bool a.isNone) w:=fun w a n c n' c' => Lib.run_eql_slice_nil w _ _ a n c n' c' t22s
 have z5 : ∀ w,Sem.run Try.prog (Go.sizeOf 5) w = .ok 1 w:=fun w => by simp [Go.sizeOf,typeInfo,hi,hz1]
 have A : Aside (∀ i,i < n → w.cell? (a.add i) = some (.int .u8 (xs.getD i 0))):=hc
 clear hc
 go_enter Try.func27,Try.ntmps27
 go_wp2_with (at_builtin;refine wpList_append_own _ rfl _ _ 23 rfl w.heap.size 5 i0 (.int .u8 0) 1 1 t22s hi hz0 hz1 hz2 rfl (by decide) _ _ _ rfl (World.ownsRow_made w #[] 0 (Nat.le_refl _) (Nat.zero_le _) rfl) a n c (xs.map (Value.int .u8)) rfl ?qc1 ?qc2 ?qc3 ?qc4 ?qc5 ?qc6 ?_)
 case qc1 => simp;omega
 case qc2 =>
  intro j u hj
  have hjn : j < n:=by
   have:=(List.getElem?_eq_some_iff.1 hj).1
   simp at this
   omega
  refine Lib.cell?_alloc_some _ ?_
  rw [A.out j hjn]
  have e : (xs.map (Value.int .u8))[j]? = some (Value.int .u8 (xs.getD j 0)):=by simp [List.getD,List.getElem?_eq_getElem (show j < xs.length by omega)]
  rw [e] at hj
  exact hj
 case qc3 => intro u hu;obtain ⟨x,_,rfl⟩:=List.mem_map.1 hu;rfl
 case qc4 => unfold maxLen;omega
 case qc5 => omega
 case qc6 => simp
 intro v' w1 hown hgrow hnil
 go_wp2
 go_ret
 refine ⟨v',rfl,by simpa using hown,?_⟩
 exact ((Below.refl _ w).alloc (Nat.le_refl _) _).grown hgrow (by simp) (by intro k hk;simp [Value.ownBlock] at hk;omega)
set_option maxHeartbeats 2000000 in
set_option maxRecDepth 100000 in
theorem clone_none (n c : Nat) (w : World) : Calls Try.prog 27 #[.slice none n c] w fun e w' => e = .returned (.slice none 0 0) ∧ w' = w:=by
 have q22 : ∀ (w : World) (a : Option Addr) (n c n' c' : Nat),(binOp .eql 23 (.slice a n c) (.slice none n' c')).run Try.prog w = .ok (.bool a.isNone) w:=fun w a n c n' c' => Lib.run_eql_slice_nil w _ _ a n c n' c' t22s
 go_enter Try.func27,Try.ntmps27
 go_wp2
 go_ret
 exact ⟨rfl,rfl⟩
end Go.Proofs.Ytnieankaikhmnaa

open Go Go.Ev
namespace Go.Proofs.Ytnieankaikhmnaa
open Go.RowKit Go.Shelf
theorem t9s : Try.prog.underlying 9 = some .string:=by kernel_rfl
theorem t5s : Try.prog.underlying 5 = some (.int .u8):=by kernel_rfl
set_option maxHeartbeats 2000000 in
set_option maxRecDepth 100000 in
theorem kept_no (v0 v1 : Value) (s0 s1 : ByteArray) (w : World) (h0 : (convert 23 9 v0).run Try.prog w = .ok (.string s0) w) (h1 : (convert 23 9 v1).run Try.prog w = .ok (.string s1) w) (hs : (s0.toList == s1.toList) = false) :
 Calls Try.prog 38 #[v0,v1] w fun e w' => e = .returned (.bool false) ∧ w' = w:=by
 go_enter Try.func38,Try.ntmps38
 go_wp2
 go_ret
 exact ⟨rfl,rfl⟩
set_option maxHeartbeats 2000000 in
set_option maxRecDepth 100000 in
theorem kept_yes (b n c : Nat) (A1 : Option Addr) (m c1 : Nat) (s0 s1 : ByteArray) (z : Int) (w : World) (h0 : (convert 23 9 (.slice (some ⟨b,0,none⟩) n c)).run Try.prog w = .ok (.string s0) w) (h1 : (convert 23 9 (.slice A1 m c1)).run Try.prog w = .ok (.string s1) w) (hs : (s0.toList == s1.toList) = true)
 (hm : m + 1 ≤ c) (hbig : m + 1 ≤ 140737488355328) (hz : w.cell? ⟨b,m,none⟩ = some (.int .u8 z)) :
 Calls Try.prog 38 #[.slice (some ⟨b,0,none⟩) n c,.slice A1 m c1] w fun e w' => e = .returned (.bool (z == 77)) ∧ w' = w:=by
 go_enter Try.func38,Try.ntmps38
 go_wp2
 go_ret
 exact ⟨rfl,rfl⟩
end Go.Proofs.Ytnieankaikhmnaa

open Go Go.Ev
namespace Go.Proofs.Ytnieankaikhmnaa
open Go.RowKit Go.Shelf
set_option maxHeartbeats 4000000 in
set_option maxRecDepth 100000 in
theorem owned_walk {w : World} {b N c0 : Nat} {A : Nat → Option Addr} {n cp g : Nat → Nat} (h : RowsOf w b N A n cp g) (hN : N ≤ 4611686018427387904) :
 Calls Try.prog 36 #[.slice (some ⟨b,0,none⟩) N c0] w fun e w' => e = .returned (.bool true) ∧ Written w w' N cp g cp:=by
 go_enter Try.func36,Try.ntmps36
 go_wp2
 go_loopw [3] (fun i wr => ∃ k : Nat,k ≤ N ∧ i = .int .i64 k ∧ Written w wr N cp g (fun j => if j < k then cp j else 0)) (fun i _ => N - (intOf i).toNat)
 case atStart => exact ⟨0,Nat.zero_le _,rfl,by simpa using Written.start h⟩
 case round =>
  obtain ⟨i,hi,rfl,hw⟩:=hrel
  by_cases hlt : i < N
  · have hc:=hw.cell h hlt
    by_cases hcp : 0 < cp i
    · obtain ⟨hA,hgb,_⟩:=h.at_ i hlt hcp
      rw [hA] at hc
      have hsm:=h.small i hlt
      go_wp2
      go_quiet (fail)
      go_wp2
      rename_i nq
      have hw0 : Written w (wr.drewN nq) N cp g (fun j => if j < i then cp j else if j = i then 0 else 0):=by
       refine Written.weaken (f:=fun j => if j < i then cp j else 0) ⟨hw.os,hw.tape,hw.output,hw.size,hw.same,hw.row⟩ fun j _ _ => .inl ?_
       split <;> simp
      go_loopw [5] (fun k wr' => ∃ q : Nat,q ≤ cp i ∧ k = .int .i64 q ∧ Written w wr' N cp g (fun j => if j < i then cp j else if j = i then q else 0)) (fun k _ => cp i - (intOf k).toNat)
      case atStart => exact ⟨0,Nat.zero_le _,rfl,hw0⟩
      case round =>
       obtain ⟨q,hq,rfl,hwq⟩:=hrel
       by_cases hlq : q < cp i
       · obtain ⟨⟨v,hv⟩,hz⟩:=hwq.thaw hlt hlq
         have hput:=hwq.put h hlt hlq (by simp)
         go_wp2
         go_roundw
         case rel =>
          refine ⟨q + 1,by omega,by go_num,?_⟩
          refine hput.weaken fun j _ _ => .inl ?_
          split
          · rename_i hj
            rw [if_neg (by omega)]
            omega
          · split <;> simp_all
         case measure => simp [intOf];omega
       · have hqe : q = cp i:=by omega
         subst hqe
         go_wp2
         go_roundw
         case rel =>
          refine ⟨i + 1,by omega,by go_num,?_⟩
          refine hwq.weaken fun j _ _ => .inl ?_
          split
          · split
            · omega
            · rw [if_pos (by omega)]
              have : j = i:=by omega
              subst this
              omega
          · omega
         case measure => simp [intOf];omega
    · have e0 : cp i = 0:=by omega
      have hsm:=h.small i hlt
      have n0 : n i = 0:=by omega
      rw [e0,n0] at hc
      have hw0 : ∀ wx : World,wx.heap = wr.heap → wx.os = wr.os → wx.tape = wr.tape → wx.output = wr.output → Written w wx N cp g (fun j => if j < i + 1 then cp j else 0):=by
       intro wx h1 h2 h3 h4
       refine Written.weaken (f:=fun j => if j < i then cp j else 0) ⟨h2.trans hw.os,h3.trans hw.tape,h4.trans hw.output,by rw [h1];exact hw.size,fun k hk => by rw [h1];exact hw.same k hk,fun j hj hc => by rw [h1];exact hw.row j hj hc⟩ fun j _ hc => .inl ?_
       have : j ≠ i:=fun e => by subst e;omega
       split
       · rw [if_pos (by omega)]
         exact Nat.le_refl _
       · exact Nat.zero_le _
      cases hAi : A i with
      | none =>
        rw [hAi] at hc
        go_wp2
        go_quiet (fail)
        go_wp2
        rename_i nq
        go_loopw [5] (fun k wr' => k = .int .i64 0 ∧ wr' = wr.drewN nq) (fun k _ => 0)
        case atStart => exact ⟨rfl,rfl⟩
        case round =>
         obtain ⟨rfl,rfl⟩:=hrel
         go_wp2
         go_roundw
         case rel => exact ⟨i + 1,by omega,by go_num,hw0 _ rfl rfl rfl rfl⟩
         case measure => simp [intOf];omega
      | some a =>
        rw [hAi] at hc
        go_wp2
        go_quiet (fail)
        go_wp2
        rename_i nq
        go_loopw [5] (fun k wr' => k = .int .i64 0 ∧ wr' = wr.drewN nq) (fun k _ => 0)
        case atStart => exact ⟨rfl,rfl⟩
        case round =>
         obtain ⟨rfl,rfl⟩:=hrel
         go_wp2
         go_roundw
         case rel => exact ⟨i + 1,by omega,by go_num,hw0 _ rfl rfl rfl rfl⟩
         case measure => simp [intOf];omega
  · have hie : i = N:=by omega
    subst hie
    go_wp2
    have hwf : Written w wr i cp g cp:=hw.weaken fun j hj _ => .inl (by rw [if_pos hj];exact Nat.le_refl _)
    clear hw
    go_loopw [6] (fun k wr' => ∃ q : Nat,q ≤ i ∧ k = .int .i64 q ∧ Written w wr' i cp g cp) (fun k _ => i - (intOf k).toNat)
    case atStart => exact ⟨0,Nat.zero_le _,rfl,hwf⟩
    case round =>
     obtain ⟨q,hq,rfl,hw⟩:=hrel
     by_cases hlq : q < i
     · have hc:=hw.cell h hlq
       have hsm:=h.small q hlq
       by_cases hcp : 0 < cp q
       · obtain ⟨hA,hgb,_⟩:=h.at_ q hlq hcp
         rw [hA] at hc
         go_wp2
         go_quiet (fail)
         go_wp2
         rename_i nq
         have hwq : Written w (wr.drewN nq) i cp g cp:=⟨hw.os,hw.tape,hw.output,hw.size,hw.same,hw.row⟩
         go_loopw [8] (fun k wr' => ∃ r : Nat,r ≤ cp q ∧ k = .int .i64 r ∧ Written w wr' i cp g cp) (fun k _ => cp q - (intOf k).toNat)
         case atStart => exact ⟨0,Nat.zero_le _,rfl,hwq⟩
         case round =>
          obtain ⟨r,hr,rfl,hwr⟩:=hrel
          by_cases hlr : r < cp q
          · have hby:=hwr.byte hlq hlr
            go_wp2
            go_roundw
            case rel => exact ⟨r + 1,by omega,by go_num,hwr⟩
            case measure => simp [intOf];omega
          · have hre : r = cp q:=by omega
            subst hre
            go_wp2
            go_roundw
            case rel => exact ⟨q + 1,by omega,by go_num,hwr⟩
            case measure => simp [intOf];omega
       · have e0 : cp q = 0:=by omega
         have n0 : n q = 0:=by omega
         rw [e0,n0] at hc
         cases hAi : A q with
         | none =>
           rw [hAi] at hc
           go_wp2
           go_quiet (fail)
           go_wp2
           rename_i nq
           go_loopw [8] (fun k wr' => k = .int .i64 0 ∧ wr' = wr.drewN nq) (fun k _ => 0)
           case atStart => exact ⟨rfl,rfl⟩
           case round =>
            obtain ⟨rfl,rfl⟩:=hrel
            go_wp2
            go_roundw
            case rel => exact ⟨q + 1,by omega,by go_num,⟨hw.os,hw.tape,hw.output,hw.size,hw.same,hw.row⟩⟩
            case measure => simp [intOf];omega
         | some a =>
           rw [hAi] at hc
           go_wp2
           go_quiet (fail)
           go_wp2
           rename_i nq
           go_loopw [8] (fun k wr' => k = .int .i64 0 ∧ wr' = wr.drewN nq) (fun k _ => 0)
           case atStart => exact ⟨rfl,rfl⟩
           case round =>
            obtain ⟨rfl,rfl⟩:=hrel
            go_wp2
            go_roundw
            case rel => exact ⟨q + 1,by omega,by go_num,⟨hw.os,hw.tape,hw.output,hw.size,hw.same,hw.row⟩⟩
            case measure => simp [intOf];omega
     · have hqe : q = i:=by omega
       subst hqe
       go_wp2
       go_ret
       exact ⟨rfl,hw⟩
set_option maxHeartbeats 4000000 in
set_option maxRecDepth 100000 in
theorem owned_nil (A : Option Addr) (W0 : World) : Calls Try.prog 36 #[.slice A 0 0] W0 fun e w' => e = .returned (.bool true) ∧ w'.heap = W0.heap ∧ w'.os = W0.os ∧ w'.tape = W0.tape ∧ w'.output = W0.output:=by
 go_enter Try.func36,Try.ntmps36
 go_wp2
 go_loopw [3] (fun k wr => k = .int .i64 0 ∧ wr = W0) (fun k _ => 0)
 case atStart => exact ⟨rfl,rfl⟩
 case round =>
  obtain ⟨rfl,rfl⟩:=hrel
  go_wp2
  go_loopw [6] (fun k wx => k = .int .i64 0 ∧ wx = wr) (fun k _ => 0)
  case atStart => exact ⟨rfl,rfl⟩
  case round =>
   obtain ⟨rfl,rfl⟩:=hrel
   go_wp2
   go_ret
   exact ⟨rfl,rfl,rfl,rfl,rfl⟩
end Go.Proofs.Ytnieankaikhmnaa

open Go Go.Ev
namespace Go.Lib
theorem run_bytesAt {P : Program} (A : Option Addr) (n c : Nat) (xs : List Int) (w : World) (hx : xs.length = n) (h0 : A = none → n = 0) (hc : ∀ a,A = some a → ∀ i,i < n → w.cell? (a.add i) = some (.int .u8 (xs.getD i 0))) :
 (Extern.Bytes.bytesOf (.slice A n c)).run P w = .ok ⟨(bytesOf xs).toArray⟩ w:=by
 cases A with
 | none =>
   have:=h0 rfl
   subst this
   have hx0 : xs = []:=List.eq_nil_of_length_eq_zero hx
   subst hx0
   rfl
 | some a =>
   have hl:=run_loadBytesX (P:=P) w xs a .empty (fun j x hj => by
    have hjl : j < xs.length:=(List.getElem?_eq_some_iff.1 hj).1
    rw [hc a rfl j (by omega),List.getD_eq_getElem?_getD,hj]
    rfl)
   rw [hx] at hl
   have he : (⟨ByteArray.empty.data ++ (bytesOf xs).toArray⟩ : ByteArray) = ⟨(bytesOf xs).toArray⟩:=by
    apply ByteArray.ext
    show (#[] : Array UInt8) ++ (bytesOf xs).toArray = (bytesOf xs).toArray
    simp
   rw [he] at hl
   exact hl
theorem run_compareAt {P : Program} (A : Option Addr) (n c : Nat) (xs : List Int) (B : Option Addr) (m d : Nat) (ys : List Int) (w : World) (hx : xs.length = n) (h0 : A = none → n = 0) (hc : ∀ a,A = some a → ∀ i,i < n → w.cell? (a.add i) = some (.int .u8 (xs.getD i 0)))
 (hy : ys.length = m) (g0 : B = none → m = 0) (gc : ∀ a,B = some a → ∀ i,i < m → w.cell? (a.add i) = some (.int .u8 (ys.getD i 0))) :
 (Extern.BytealgCompare.compare #[.slice A n c,.slice B m d]).run P w = .ok (.int .i64 (compareBytes (bytesOf xs) (bytesOf ys))) w:=by
 have h1:=run_bytesAt (P:=P) A n c xs w hx h0 hc
 have h2:=run_bytesAt (P:=P) B m d ys w hy g0 gc
 change Sem.run P (do pure (goInt (Extern.BytealgCompare.cmp (← Extern.Bytes.bytesOf (.slice A n c)) (← Extern.Bytes.bytesOf (.slice B m d))))) w = _
 simp only [Sem.run_bind,Sem.run_pure,h1,h2,Result.andThen]
 rw [cmp_eq]
 rfl
end Go.Lib
namespace Go.Proofs.Ytnieankaikhmnaa
open Go.RowKit Go.Shelf
theorem conv22 (A : Option Addr) (n c : Nat) (w : World) (s : ByteArray) (h : (Conv.bytesToString (.slice A n c)).run Try.prog w = .ok (.string s) w) : (convert 23 9 (.slice A n c)).run Try.prog w = .ok (.string s) w:=by
 rw [run_convert_bytes_string w 23 9 5 A n c t22s t5s t9s]
 exact h
set_option maxHeartbeats 1000000 in
set_option maxRecDepth 100000 in
theorem cmp_walk (A : Option Addr) (n c : Nat) (xs : List Int) (B : Option Addr) (m d : Nat) (ys : List Int) (w : World) (hx : xs.length = n) (h0 : A = none → n = 0) (hc : ∀ a,A = some a → ∀ i,i < n → w.cell? (a.add i) = some (.int .u8 (xs.getD i 0)))
 (hy : ys.length = m) (g0 : B = none → m = 0) (gc : ∀ a,B = some a → ∀ i,i < m → w.cell? (a.add i) = some (.int .u8 (ys.getD i 0))) :
 Calls Try.prog 42 #[.slice A n c,.slice B m d] w fun e w' => e = .returned (.int .i64 (Lib.compareBytes (Lib.bytesOf xs) (Lib.bytesOf ys))) ∧ w' = w:=by
 go_enter Try.func42,Try.ntmps42
 go_wp2
 rw [run_callFunc_extern Try.func56 (by kernel_rfl) (by kernel_rfl) (by kernel_rfl) (e:=Extern.BytealgCompare.compare) (by kernel_rfl),Lib.run_compareAt A n c xs B m d ys w hx h0 hc hy g0 gc]
 simp only [Result.andThen]
 rw [Oper.upon_value]
 go_wp2
 go_ret
 exact ⟨rfl,rfl⟩
end Go.Proofs.Ytnieankaikhmnaa

