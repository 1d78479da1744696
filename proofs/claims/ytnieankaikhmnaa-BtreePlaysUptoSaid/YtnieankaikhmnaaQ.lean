/- What the functions answer, and the laws. -/
import Derived.Test.YtnieankaikhmnaaW

set_option linter.unusedVariables false

set_option linter.unusedSimpArgs false

set_option linter.unusedSectionVars false

set_option linter.unusedVariables false
namespace Go.Ev
theorem CallSpec.pure {P : Program} {f : FuncId} {vs rs : List PV} {outs : List OV} (hcs : CallSpec P f (vs.map fun v => .flat (.val v)) (rs.map fun v => .flat (.val v)) outs) {W : World} {Oc : Nat → Prop} (hOc : ∀ k,Oc k → k < W.heap.size)
 {args : Array Value} (hlen : vs.length = args.toList.length) (hrep : ∀ (j : Nat) v u,vs[j]? = some v → args.toList[j]? = some u → RepV W Oc v u) :
 Calls P f args W fun e W' => ∃ us : Nat → Value,e = .returned (resultVal rs.length us) ∧ (∀ (j : Nat) r,rs[j]? = some r → RepV W' Oc r (us j)) ∧ Go.RowKit.Below W.heap.size W W':=by
 have hS : SRel W Oc (startSlots 0 (vs.map fun v => OV.flat (.val v))) (fun t => args.toList.getD t Go.undef) (fun _ _ => none):=by
  refine ⟨fun t => ?_,fun t c t' c' k q => (by cases q),fun t c k q => (by cases q)⟩
  rw [get_start,if_pos (Nat.zero_le _),Nat.sub_zero,List.getElem?_map]
  cases hv : vs[t]? with
  | none => exact fun _ => rfl
  | some v =>
    have hlt:=(List.getElem?_eq_some_iff.1 hv).1
    have hu : args.toList[t]? = some (args.toList[t]'(by omega)):=List.getElem?_eq_getElem _
    have hget : args.toList.getD t Go.undef = args.toList[t]'(by omega):=by simp [List.getD,hu]
    show ORep _ _ (.flat (.val v)) (args.toList.getD t Go.undef) _ _
    rw [hget]
    refine .flat _ _ _ (.val _ _ ((hrep t v _ hv hu).move fun k _ hk => ⟨rfl,?_⟩))
    rintro (⟨_,_,q⟩ | q)
    · cases q
    · exact hk q
 have hcall:=hcs W Oc args.toList (fun _ _ => none) (by simp [hlen]) hOc hS
 have hargs : args.toList.toArray = args:=by simp
 rw [hargs] at hcall
 refine hcall.mono fun e W' ⟨v,he,hG,hco⟩ => ?_
 obtain ⟨N,stO,tmO,ob,k1,_,_,_,k5,k6⟩:=hco.ex
 refine ⟨fun j => tmO (N + j),by rw [he,k6,List.length_map],fun j r hr => ?_,⟨hG.os,hG.tape,hG.output,hG.size,fun k hk => hG.same k hk fun ⟨_,_,q⟩ => by cases q⟩⟩
 have hr':=k1.rep (N + j)
 rw [k5 j (.flat (.val r)) (by rw [List.getElem?_map,hr];rfl)] at hr'
 exact ((ORep.flat_inv hr').1.val_inv).1.move fun k _ hk => ⟨rfl,fun q => hk (.inr q)⟩
end Go.Ev
namespace Go.Proofs.Ytnieankaikhmnaa
open Go Go.Ev Go.T14
theorem Sm.prims : ∀ (g : FuncId) p os rr,Sm.C.prim g = some p → p os = some rr → CallSpec Sm.C.P g os rr.1 rr.2:=by
 intro g p os rr h1 h2
 have h1 : Sm.prim g = some p:=h1
 unfold Sm.prim at h1
 split at h1
 · cases h1
   exact primClone_spec (t:=5) clone_none clone_some h2
 · cases h1
   exact primBytesCompare_spec cmp_walk h2
 · cases h1
theorem Sm.names : namesOk Sm.C.P = true:=Ytnieankaikhmnaa.names
theorem place_calls (k : List UInt8) (es : List Ent) (bs : List PV) (c : Int) (hs : Sorted es) (hl : es.length ≤ 1000) {W : World} {O : Nat → Prop} (hO : ∀ k,O k → k < W.heap.size) {v u : Value}
 (hv : RepV W O (.ptr (some 3) (pgA (es.map entV) bs c)) v) (hu : RepV W O (bV k) u) :
 Calls Try.prog 24 #[v,u] W fun e W' => e = .returned (.tuple #[.int .i64 (ltc k es),.bool (has k es)]) ∧ Go.RowKit.Below W.heap.size W W':=by
 have hcs:=pcall_spec Sm.names Sm.prims _ _ _ _ (Sm.s24 0 k es bs c hs hl)
 refine (CallSpec.pure (vs:=[.ptr (some 3) (pgA (es.map entV) bs c),bV k]) (rs:=[.int .i64 (ltc k es),.bool (has k es)]) hcs hO (args := #[v,u]) rfl ?_).mono fun e W' ⟨us,he,hr,hb⟩ => ⟨?_,hb⟩
 · intro j x y h1 h2
   match j with
   | 0 => cases h1;cases h2;exact hv
   | 1 => cases h1;cases h2;exact hu
   | j + 2 => simp at h1
 · have h0:=hr 0 _ rfl
   have h1:=hr 1 _ rfl
   rw [he]
   have e0 : us 0 = .int .i64 (ltc k es):=by generalize us 0 = q at h0;cases h0;rfl
   have e1 : us 1 = .bool (has k es):=by generalize us 1 = q at h1;cases h1;rfl
   show Ending.returned (.tuple #[us 0,us 1]) = _
   rw [e0,e1]
theorem copied_calls (es : List Ent) (hl : es.length ≤ 1000) (hs : Short big es) {W : World} {O : Nat → Prop} (hO : ∀ k,O k → k < W.heap.size) {v : Value} (hv : RepV W O (.sl (some 2) (es.map entV)) v) :
 Calls Try.prog 25 #[v] W fun e W' => ∃ u,e = .returned u ∧ RepV W' O (.sl (some 2) (es.map entV)) u ∧ Go.RowKit.Below W.heap.size W W':=by
 have hcs:=CallSpec.freeze (pcall_spec Sm.names Sm.prims _ _ _ _ (Sm.s25 0 es hl hs)) [true]
 refine (CallSpec.pure (vs:=[.sl (some 2) (es.map entV)]) (rs:=[.sl (some 2) (es.map entV)]) hcs hO (args := #[v]) rfl ?_).mono fun e W' ⟨us,he,hr,hb⟩ => ⟨us 0,he,hr 0 _ rfl,hb⟩
 intro j x y h1 h2
 match j with
 | 0 => cases h1;cases h2;exact hv
 | j + 1 => simp at h1
end Go.Proofs.Ytnieankaikhmnaa

set_option linter.unusedVariables false
namespace Go.Proofs.Ytnieankaikhmnaa
open Go Go.Ev Go.RowKit Go.Shelf Go.T14 Go.W14
attribute [local go_sem] Oper.semAt_some
set_option maxHeartbeats 2000000 in
set_option maxRecDepth 100000 in
theorem leaves_call (F : Fence) (n : Nat) (h23 : F.fn 23) (hro : F.round = none) (p : Option Addr) (W : World) :
 CallsIn F n Try.prog 23 #[.pointer p] W fun e W' => e = .returned (.func (.func 39) #[] #[.pointer (some ⟨W.heap.size,0,none⟩)]) ∧ W' = W.alloc (.cells #[.pointer p] 55):=by
 refine callsIn_of_wp Try.func23 rfl h23 ?_ hro
 simp only [Try.ntmps23,List.size_toArray,List.length_cons,List.length_nil,Nat.reduceAdd,Nat.reduceSub,Array.replicate_succ,Array.replicate_zero,List.push_toArray,List.append_toArray,List.nil_append,List.cons_append]
 gi_wp2
 go_ret
 exact ⟨rfl,rfl⟩
theorem spV_parts {w : World} {O : Nat → Prop} {s : Sp} {v : Value} (h : RepV w O (spV s) v) : ∃ vf vt,v = .agg #[vf,vt,.bool s.e] ∧ RepV w O (bV s.f) vf ∧ RepV w O (bV s.t) vt:=by
 generalize hq : spV s = p at h
 cases h with
 | agg cs vs us hl hk hm hr =>
   unfold spV at hq
   injection hq with hq
   subst hq
   have h0:=hm 0 _ rfl
   have h1:=hm 1 _ rfl
   have h2:=hm 2 _ rfl
   have r0:=hr 0 _ rfl
   have r1:=hr 1 _ rfl
   have r2:=hr 2 _ rfl
   have e2 : us 2 = .bool s.e:=by generalize us 2 = q at r2;cases r2;rfl
   refine ⟨us 0,us 1,?_,r0,r1⟩
   rw [e2] at h2
   congr 1
   apply Array.ext
   · rw [hl];rfl
   · intro i hi _
     have hi3 : i < 3:=by rw [hl] at hi;exact hi
     match i,hi3 with
     | 0,_ => rw [Array.getElem?_eq_getElem (by rw [hl];simp)] at h0;exact Option.some.inj h0
     | 1,_ => rw [Array.getElem?_eq_getElem (by rw [hl];simp)] at h1;exact Option.some.inj h1
     | 2,_ => rw [Array.getElem?_eq_getElem (by rw [hl];simp)] at h2;exact Option.some.inj h2
 | _ => cases hq
def RangeI (w wL : World) (O : Nat → Prop) (s : Sp) (pre : List (LV w O)) (T : Nat → Prop) (W : World) : Prop :=
 ∃ v xs,OutAt w wL O (w.heap.size + 1) 27 33 2 v xs (pre.flatMap fun x => rangeL s x.1.2).length (((pre.flatMap fun x => rangeL s x.1.2).map entV).flatMap PV.cells) T W
theorem RangeI.turn {w wL : World} {O : Nat → Prop} {s : Sp} : AbidesX (RangeI w wL O s):=fun _ T T' W W' ⟨v,xs,h⟩ ht => ⟨v,xs,h.turn ht⟩
theorem RangeI.skip {w wL W : World} {O T : Nat → Prop} {s : Sp} {pre : List (LV w O)} {x : LV w O} {v : Value} {xs : List Value} (h : OutAt w wL O (w.heap.size + 1) 27 33 2 v xs (pre.flatMap fun x => rangeL s x.1.2).length (((pre.flatMap fun x => rangeL s x.1.2).map entV).flatMap PV.cells) T W) (hx : rangeL s x.1.2 = []) :
 RangeI w wL O s (pre ++ [x]) T W:=by
 have e : (pre ++ [x]).flatMap (fun x => rangeL s x.1.2) = pre.flatMap fun x => rangeL s x.1.2:=by simp [hx]
 unfold RangeI
 rw [e]
 exact ⟨v,xs,h⟩
theorem ents_elems (l : List Ent) : Elems (some 2) (l.map entV):=by
 refine ⟨fun x hx => ?_,fun x hx => ?_,fun x hx y hy => ?_⟩ <;> obtain ⟨e,_,rfl⟩:=List.mem_map.1 hx
 · rfl
 · rfl
 · rcases List.mem_cons.1 hy with rfl | hy
   · rfl
   · rcases List.mem_cons.1 hy with rfl | hy
     · rfl
     · cases hy
theorem rangeL_flat (s : Sp) {w : World} {O : Nat → Prop} (zs : List (LV w O)) {d : Nat} {t : Tr d} (h : zs.map (fun x => x.1.2) = leaves d t) : zs.flatMap (fun x => rangeL s x.1.2) = rangeL s (flat d t):=by
 rw [flat_leaves,← h]
 clear h
 induction zs with
 | nil => rfl
 | cons x zs ih => rw [List.flatMap_cons,List.map_cons,List.flatten_cons,ih];exact (List.filter_append ..).symm
theorem leaves_le : ∀ (d : Nat) (t : Tr d),(leaves d t).length ≤ nodesOf d t
 | 0,_ => by simp [leaves,nodesOf]
 | d + 1,bs => by
   have key : ∀ l : List (Tr d),(l.flatMap (leaves d)).length ≤ (l.map (nodesOf d)).sum:=by
    intro l
    induction l with
    | nil => simp
    | cons x l ih =>
      have:=leaves_le d x
      simp only [List.flatMap_cons,List.length_append,List.map_cons,List.sum_cons]
      omega
   have:=key bs
   show (List.flatMap (leaves d) bs).length ≤ 1 + ((bs : List (Tr d)).map (nodesOf d)).sum
   omega
theorem rangeL_le (s : Sp) (l : List Ent) : (rangeL s l).length ≤ l.length:=List.length_filter_le _ _
theorem ranged_le {w : World} {O : Nat → Prop} (s : Sp) (pre : List (LV w O)) : (pre.flatMap fun x => rangeL s x.1.2).length ≤ 4 * pre.length:=by
 induction pre with
 | nil => simp
 | cons x pre ih =>
   have h1 : (rangeL s x.1.2).length ≤ x.1.2.length:=List.length_filter_le _ _
   have h2:=x.2.2.2.1
   simp only [List.flatMap_cons,List.length_append,List.length_cons]
   omega
theorem w27 : Try.prog.underlying 27 = some (.slice 33):=by kernel_rfl
theorem wi33 : (Try.prog.info? 33).map (fun i => (i.zero,i.size,i.bytes)) = some (some (.agg #[.slice none 0 0,.slice none 0 0]),2,48):=by kernel_rfl
theorem mixed : Try.prog.follows .mixedOrders = true:=by kernel_rfl
set_option maxHeartbeats 4000000 in
set_option maxRecDepth 100000 in
theorem range_calls {d : Nat} {t : Tr d} (s : Sp) (hg : T14.Good d t) {w : World} {O : Nat → Prop} (hO : ∀ k,O k → k < w.heap.size) {tb : Nat} {u vs : Value} (hc : w.cell? ⟨tb,0,none⟩ = some u) (hu : RepV w O (enc d t) u) (hvs : RepV w O (spV s) vs) :
 Calls Try.prog 10 #[.pointer (some ⟨tb,0,none⟩),vs] w fun e w' => ∃ v,e = .returned v ∧ RepV w' O (.sl (some 2) ((rangeL s (flat d t)).map entV)) v ∧ Below w.heap.size w w':=by
 obtain ⟨a,rfl⟩:=kid_rep hu
 obtain ⟨vf,vt,rfl,hvf,hvt⟩:=spV_parts hvs
 refine (callsIn_wide (n:=3)).1 ?_
 refine callsIn_of_wp_marks Try.func10 rfl trivial ?_ rfl
 simp only [Try.ntmps10,List.size_toArray,List.length_cons,List.length_nil,Nat.reduceAdd,Nat.reduceSub,Array.replicate_succ,Array.replicate_zero,List.push_toArray,List.append_toArray,List.nil_append,List.cons_append]
 have htl:=cell_lt hc
 have hcw : ((w.alloc (.cells #[vf,vt,.bool s.e] 30)).alloc (.cells #[.slice none 0 0] 27)).cell? ⟨tb,0,none⟩ = some (.pointer (some a)):=by
  rw [cell_same (w:=w) (by rw [Below.heap_alloc _ _ _ (by simp;exact Nat.lt_succ_of_lt htl),Below.heap_alloc _ _ _ htl])];exact hc
 gi_wp2_with (refine ⟨trivial,?_⟩;gi_at_call 23;refine (leaves_call _ _ trivial rfl _ _).mono ?_;rintro e w' ⟨rfl,rfl⟩)
 have hsz : (((w.alloc (.cells #[vf,vt,.bool s.e] 30)).alloc (.cells #[.slice none 0 0] 27)).alloc (.cells #[.pointer (some a)] 55)).heap.size = w.heap.size + 3:=by simp
 have hbL : Below w.heap.size w (((w.alloc (.cells #[vf,vt,.bool s.e] 30)).alloc (.cells #[.slice none 0 0] 27)).alloc (.cells #[.pointer (some a)] 55)):=(((Below.refl _ w).alloc (Nat.le_refl _) _).alloc (by simp) _).alloc (by simp;omega) _
 have hB0 : (((w.alloc (.cells #[vf,vt,.bool s.e] 30)).alloc (.cells #[.slice none 0 0] 27)).alloc (.cells #[.pointer (some a)] 55)).heap[w.heap.size]? = some (.cells #[vf,vt,.bool s.e] 30 (0,0)):=by
  rw [Below.heap_alloc _ _ _ (by simp;omega),Below.heap_alloc _ _ _ (by simp)];exact World.alloc_heap_new w _
 have hB1 : (((w.alloc (.cells #[vf,vt,.bool s.e] 30)).alloc (.cells #[.slice none 0 0] 27)).alloc (.cells #[.pointer (some a)] 55)).heap[w.heap.size + 1]? = some (.cells #[.slice none 0 0] 27 (0,0)):=by
  rw [Below.heap_alloc _ _ _ (by simp)];have:=World.alloc_heap_new (w.alloc (.cells #[vf,vt,.bool s.e] 30)) (.cells #[.slice none 0 0] 27);rwa [World.size_alloc] at this
 have hB2 : (((w.alloc (.cells #[vf,vt,.bool s.e] 30)).alloc (.cells #[.slice none 0 0] 27)).alloc (.cells #[.pointer (some a)] 55)).cell? ⟨w.heap.size + 2,0,none⟩ = some (.pointer (some a)):=by
  have:=World.alloc_heap_new ((w.alloc (.cells #[vf,vt,.bool s.e] 30)).alloc (.cells #[.slice none 0 0] 27)) (.cells #[.pointer (some a)] 55);rw [World.size_alloc,World.size_alloc] at this;simp only [World.cell?,this];rfl
 generalize (((w.alloc (.cells #[vf,vt,.bool s.e] 30)).alloc (.cells #[.slice none 0 0] 27)).alloc (.cells #[.pointer (some a)] 55)) = wL at hsz hbL hB0 hB1 hB2 ⊢
 obtain ⟨s0,hs0⟩ : ∃ s0 : SP w O,s0 = ⟨a,d,t,hu,hg.okr,hg.sorted,hg.short⟩:=⟨_,rfl⟩
 have hnod : nodesOf s0.d s0.t ≤ 10000000:=by rw [hs0];exact Nat.le_trans (nodes_okr d t hg.okr) (Nat.le_trans (Nat.pow_le_pow_right (by decide) hg.deep) (by decide))
 refine wpIn_rangeFunc_X (α := LV w O) rfl (by decide) (gf:=39) (lb := #[.pointer (some ⟨w.heap.size + 1 + 1,0,none⟩)]) rfl trivial (enters_of Try.func39 (by kernel_rfl) rfl)
  (leaves_seq Fence.wide 2 trivial rfl (by decide) (w.heap.size + 2) w wL O s0 hnod hbL (by rw [hB2,hs0];rfl)) kpl_trans (fun T W o h => kpl_put o (by omega) h) (Below.refl _ _) (fun _ => rfl)
  (RangeI w wL O s) RangeI.turn (fun _ T W o ⟨v,xs,h⟩ => ⟨v,xs,h.put o⟩) ?start
  (fun x => { tmps := #[.pointer (some ⟨tb,0,none⟩),.agg #[vf,vt,.bool s.e],undef,.pointer (some ⟨w.heap.size,0,none⟩),.slice none 0 0,.pointer (some ⟨w.heap.size + 1,0,none⟩),x.1.1,undef,undef,undef,.pointer (some ⟨tb,0,none⟩),.pointer (some ⟨tb,0,none⟩),.pointer (some ⟨tb,0,none⟩),.pointer (some a),.func (.func 39) #[] #[.pointer (some ⟨w.heap.size + 1 + 1,0,none⟩)],x.1.1,undef,undef,undef,undef,undef,undef,undef,undef,undef,undef,undef,undef,undef,undef,undef,undef,undef,undef,undef,undef,undef,undef,undef,undef,undef,undef,undef,undef,undef,undef,undef,undef,undef,undef,undef],defers:=[] }) ?assign ?body ?done
 case start =>
  exact ⟨.slice none 0 0,[],hO,by omega,by omega,hbL,Nat.le_refl _,fun k h => h.elim,hbL.os,hbL.tape,hbL.output,fun k _ _ => rfl,hB1,World.ownsRow_nil _ _ _ _,fun g h => by simp [Value.ownBlock] at h,by simp,fun q y h => by simp at h⟩
 case assign =>
  intro l x W K hK
  gi_wp2
  exact hK
 case body =>
  rintro l pre x T W ⟨v,xs,hi⟩ hlen hsW hT
  obtain ⟨⟨xv,es⟩,hxr,hxs,hxl,hxsh⟩:=x
  simp only at hxr hxs hxl hxsh ⊢
  obtain ⟨pa,rfl⟩:=kid_rep hxr
  obtain ⟨⟨ve,vb,p0,p1,p2,re,rb⟩⟩:=page_at (c:=List.length (α := Ent) es) hxr
  have hbW:=hi.below
  have hf0 : W.cell? ⟨w.heap.size,0,none⟩ = some vf:=by simp only [World.cell?,(hi.same _ (by omega) (by omega)).trans hB0];rfl
  obtain ⟨A,c,rfl,hce⟩:=sl_inv re
  rw [List.length_map] at hce p0 re
  gi_wp2
  refine ⟨trivial,(CallsIn.inRound l (callsIn_wide.2 (place_calls s.f es [] _ hxs (by omega) (or_lt hO hbW.size) (rep_in hxr hbW) (rep_in hvf hbW)))).mono ?_⟩
  rintro e W1 ⟨rfl,hb1⟩
  have hbW1:=hbW.trans (hb1.mono hbW.size)
  have hi1:=hi.turn (turn_below (T:=T) hb1)
  have g2 : W1.cell? ⟨w.heap.size,2,none⟩ = some (.bool s.e):=by simp only [World.cell?,(hi1.same _ (by omega) (by omega)).trans hB0];rfl
  have g1 : W1.cell? ⟨w.heap.size,1,none⟩ = some vt:=by simp only [World.cell?,(hi1.same _ (by omega) (by omega)).trans hB0];rfl
  have p0' : w.cell? pa = some (.slice A es.length c):=p0
  have hp0 : W1.cell? pa = some (.slice A es.length c):=by rw [cell_same (hbW1.block _ (cell_lt p0'))];exact p0'
  obtain ⟨fr,hfr⟩ : ∃ fr,Keep (fr = ltc s.f es):=⟨_,⟨rfl⟩⟩
  rw [← hfr.out]
  dsimp only
  cases hse : s.e with
  | false =>
    rw [hse] at g2
    have htl : es.length ≤ es.length:=Nat.le_refl _
    have hsel : rangeL s es = (es.take es.length).drop fr:=by rw [rangeL_slice s hxs,hse,hfr.out];rfl
    gi_wp2
    · skip
      have hft : fr < es.length:=by assumption
      have hfl : fr ≤ es.length:=Nat.le_of_lt hft
      have hb2:=hb1
      have hp2:=hp0
      have hbW2:=hbW1
      generalize W1 = W2 at hb2 hp2 hbW2 ⊢
      refine wpIn_region_inv mixed (by kernel_rfl) (by simp) (fun ls a' w' => ∃ u48 u49,a'.tmps.size = 51 ∧ SF [(5,none,.pointer (some ⟨w.heap.size + 1,0,none⟩)),(6,none,.pointer (some pa)),(7,none,.int .i64 fr),(9,none,.int .i64 es.length),(40,some 0,v),(41,some 1,.pointer (some pa)),(42,some 2,.pointer (some pa)),
       (43,some 3,.pointer (some pa)),(44,some 4,.slice A es.length c),(45,some 5,.int .i64 fr),(46,some 6,.int .i64 es.length),(47,some 7,.slice (if c = fr then A else A.map (·.add (fr * 2))) (es.length - fr) (c - fr)),(48,some 8,u48),(49,some 9,u49)] ls a' ∧
       (ls 8 = true → ls 4 = true ∧ ls 7 = true) ∧ (ls 7 = true → ls 4 = true) ∧ (ls 9 = true → ls 0 = true) ∧
       WF3 (w' = W2.drew) (Below W2.drew.heap.size W2.drew w' ∧ RepV w' (OR O w.heap.size W2.drew.heap.size) (.sl (some 2) ((rangeL s es).map entV)) u48)
        (∃ W3 news,Below W2.drew.heap.size W2.drew W3 ∧ W3.grownBy w' v.ownBlock ∧ w'.ownsRow (wL.heap.size + 2) 33 2 u49 ((pre.flatMap fun x => rangeL s x.1.2).length + (rangeL s es).length) (xs ++ news) ∧ (u49.ownBlock = v.ownBlock ∨ u49.ownBlock = some W3.heap.size) ∧ CellsRep W3 (OX O w.heap.size wL.heap.size T v) (((rangeL s es).map entV).flatMap PV.cells) news)
        (KeepsOthers W w' ∧ KpL w.heap.size T W w' ∧ RangeI w wL O s (pre ++ [⟨(.pointer (some pa),es),hxr,hxs,hxl,hxsh⟩]) T w') (ls 8) (ls 9) (ls 10)) ?h0 ?step ?fin
      case h0 =>
       refine ⟨Go.undef,Go.undef,rfl,SF.start fun e he hn => ?_,fun h => Bool.noConfusion h,fun h => Bool.noConfusion h,fun h => Bool.noConfusion h,WF3.p0 rfl⟩
       simp only [List.mem_cons,List.not_mem_nil,or_false] at he
       rcases he with rfl | rfl | rfl | rfl | rfl | rfl | rfl | rfl | rfl | rfl | rfl | rfl | rfl | rfl <;> first | rfl | cases hn
      case fin =>
       rintro ls a' w' ⟨u48,u49,_,_,_,_,_,hw⟩ hall
       rw [hall 8 (by decide),hall 9 (by decide),hall 10 (by decide)] at hw
       cases hw with
       | p3 h => exact h
      case step =>
       rintro ls a' w' K i o ⟨u48,u49,hsz',hS,h8,h7,h9,hw⟩ ho hls hall hK
       have f5:=hS.base (k:=5) (v := .pointer (some ⟨w.heap.size + 1,0,none⟩)) (by simp)
       have f6:=hS.base (k:=6) (v := .pointer (some pa)) (by simp)
       have f7:=hS.base (k:=7) (v := .int .i64 fr) (by simp)
       have f9:=hS.base (k:=9) (v := .int .i64 es.length) (by simp)
       have h9f : ls 0 = false → ls 9 = false:=fun h => by
        cases hh : ls 9 with
        | false => rfl
        | true => rw [h9 hh] at h;cases h
       have h8f : ls 4 = false → ls 8 = false:=fun h => by
        cases hh : ls 8 with
        | false => rfl
        | true => rw [(h8 hh).1] at h;cases h
       match i,ho with
       | 0,ho =>
         obtain rfl:=Option.some.inj ho
         have hw0:=hw
         rw [h9f hls] at hw0
         have hbw : Below W.heap.size W w':=by
          rcases hw0.low.1 with rfl | ⟨h,_⟩
          · exact hb2.drew
          · exact hb2.drew.trans (h.mono hb2.size)
         have hbx : w'.cell? ⟨w.heap.size + 1,0,none⟩ = some v:=by simp only [World.cell?,(hi.turn (turn_below (T:=T) hbw)).box];rfl
         go_simp
         exact hK _ _ ⟨u48,u49,by simpa using hsz',hS.put (d:=40) (by omega) (by simp),h8,h7,fun _ => rfl,hw⟩
       | 1,ho =>
         obtain rfl:=Option.some.inj ho
         go_simp
         exact hK _ _ ⟨u48,u49,by simpa using hsz',hS.put (d:=41) (by omega) (by simp),h8,h7,h9,hw⟩
       | 2,ho =>
         obtain rfl:=Option.some.inj ho
         have f41:=hS.get (k:=41) (j:=1) (v := .pointer (some pa)) (by simp) (hall ⟨1,.data⟩ (by simp) rfl)
         go_simp
         exact hK _ _ ⟨u48,u49,by simpa using hsz',hS.put (d:=42) (by omega) (by simp),h8,h7,h9,hw⟩
       | 3,ho =>
         obtain rfl:=Option.some.inj ho
         have f42:=hS.get (k:=42) (j:=2) (v := .pointer (some pa)) (by simp) (hall ⟨1 + 1,.data⟩ (by simp) rfl)
         go_simp
         exact hK _ _ ⟨u48,u49,by simpa using hsz',hS.put (d:=43) (by omega) (by simp),h8,h7,h9,hw⟩
       | 4,ho =>
         obtain rfl:=Option.some.inj ho
         have f43:=hS.get (k:=43) (j:=3) (v := .pointer (some pa)) (by simp) (hall ⟨3,.data⟩ (by simp) rfl)
         have hw0:=hw
         rw [h8f hls] at hw0
         obtain ⟨rfl,e9,e10⟩:=hw0.start
         have hp2d : W2.drew.cell? pa = some (.slice A es.length c):=hp2
         go_simp
         exact hK _ _ ⟨u48,u49,by simpa using hsz',hS.put (d:=44) (by omega) (by simp),fun h => ⟨rfl,(h8 h).2⟩,fun _ => rfl,h9,hw⟩
       | 5,ho =>
         obtain rfl:=Option.some.inj ho
         go_simp
         exact hK _ _ ⟨u48,u49,by simpa using hsz',hS.put (d:=45) (by omega) (by simp),h8,h7,h9,hw⟩
       | 6,ho =>
         obtain rfl:=Option.some.inj ho
         go_simp
         exact hK _ _ ⟨u48,u49,by simpa using hsz',hS.put (d:=46) (by omega) (by simp),h8,h7,h9,hw⟩
       | 7,ho =>
         obtain rfl:=Option.some.inj ho
         have f44:=hS.get (k:=44) (j:=4) (v := .slice A es.length c) (by simp) (hall ⟨4,.data⟩ (by simp) rfl)
         have f45:=hS.get (k:=45) (j:=5) (v := .int .i64 fr) (by simp) (hall ⟨5,.data⟩ (by simp) rfl)
         have f46:=hS.get (k:=46) (j:=6) (v := .int .i64 es.length) (by simp) (hall ⟨6,.data⟩ (by simp) rfl)
         go_simp
         exact hK _ _ ⟨u48,u49,by simpa using hsz',hS.put (d:=47) (by omega) (by simp),fun h => ⟨(h8 h).1,rfl⟩,fun _ => hall ⟨4,.data⟩ (by simp) rfl,h9,hw⟩
       | 8,ho =>
         obtain rfl:=Option.some.inj ho
         have f47:=hS.get (k:=47) (j:=7) (v := .slice (if c = fr then A else A.map (·.add (fr * 2))) (es.length - fr) (c - fr)) (by simp) (hall ⟨7,.data⟩ (by simp) rfl)
         have hw0:=hw
         rw [hls] at hw0
         obtain ⟨rfl,e9,e10⟩:=hw0.start
         go_simp
         have hcut : RepV W2.drew (OR O w.heap.size W2.drew.heap.size) (.sl (some 2) ((rangeL s es).map entV)) (.slice (if c = fr then A else A.map (·.add (fr * 2))) (es.length - fr) (c - fr)):=by
          have:=(rep_in re (W:=W2.drew) hbW2.drew).cut (l:=fr) (e:=es.length) (m:=c) hfl (by rw [List.length_map];exact htl) (Nat.le_trans htl hce) (Nat.le_refl _)
          rw [← List.map_take,← List.map_drop,← hsel] at this
          exact this
         refine ⟨trivial,(CallsIn.inRound l (callsIn_wide.2 (copied_calls (rangeL s es) (by have:=rangeL_le s es;omega) (fun e he => hxsh e (List.mem_filter.1 he).1) (or_lt hO hbW2.drew.size) hcut))).mono ?_⟩
         rintro e W3 ⟨u,rfl,hru,hb3⟩
         exact hK _ _ ⟨u,u49,by simpa using hsz',(hS.swap (by simp [hls])).put (d:=48) (by omega) (by simp),fun _ => ⟨h7 (hall ⟨7,.data⟩ (by simp) rfl),hall ⟨7,.data⟩ (by simp) rfl⟩,h7,h9,by
          show WF3 _ _ _ _ true (ls 9) (ls 10)
          rw [e9,e10]
          exact .p1 ⟨hb3,hru⟩⟩
       | 9,ho =>
         obtain rfl:=Option.some.inj ho
         have f40:=hS.get (k:=40) (j:=0) (v:=v) (by simp) (hall ⟨0,.data⟩ (by simp) rfl)
         have f48:=hS.get (k:=48) (j:=8) (v:=u48) (by simp) (hall ⟨8,.data⟩ (by simp) rfl)
         have hw0:=hw
         have e8:=hall ⟨8,.data⟩ (by simp) rfl
         simp only at e8
         rw [hls,e8] at hw0
         obtain ⟨⟨hb3,hru⟩,e10⟩:=hw0.mid
         have hbw : Below W.heap.size W w':=hb2.drew.trans (hb3.mono hb2.size)
         have hi3:=hi.turn (turn_below (T:=T) hbw)
         obtain ⟨i0,hi0,hz0,hz1,hz2⟩:=info_parts wi33
         have hne : (rangeL s es).map entV ≠ []:=by
          rw [hsel]
          intro h
          have:=congrArg List.length h
          simp at this
          omega
         obtain ⟨ad,cp,news,rfl,hcp,hnl,hnc,hn1,hnr⟩:=rep_cells hru hne (ents_elems _) (by decide)
         rw [List.length_map] at hcp hnl f48
         have hm0 : 0 < (rangeL s es).length:=List.length_pos_iff.2 fun h => hne (by rw [h];rfl)
         have hpl:=ranged_le s pre
         have hle4:=rangeL_le s es
         have hlv:=leaves_le s0.d s0.t
         refine step_append_fresh w' (.tmp 40) (.tmp 48) 27 rfl (wL.heap.size + 2) 33 i0 (.agg #[.slice none 0 0,.slice none 0 0]) 2 48 w27 hi0 hz0 hz1 hz2 rfl (by decide) v _ xs f40 hi3.row ad (rangeL s es).length cp news f48 hnl hnc hn1 hm0 (by unfold maxLen;omega) (by omega) (Nat.le_trans hsW hbw.size) ?_
         intro v' w4 hown' hgrow hfresh _
         exact hK _ _ ⟨.slice (some ad) ((rangeL s es).map entV).length cp,v',by show (a'.tmps.setIfInBounds 49 v').size = 51;simpa using hsz',(hS.swap (by simp [hls])).put (d:=49) (by omega) (by simp),h8,h7,fun _ => hall ⟨0,.data⟩ (by simp) rfl,by
          show WF3 _ _ _ _ (ls 8) true (ls 10)
          rw [e8,e10]
          exact .p2 ⟨w',news,hb3,hgrow,hown',hfresh,hnr.move fun k _ hk => ⟨rfl,hi.or_ox hsW hb2.drew k hk⟩⟩⟩
       | 10,ho =>
         obtain rfl:=Option.some.inj ho
         have f49:=hS.get (k:=49) (j:=9) (v:=u49) (by simp) (hall ⟨9,.data⟩ (by simp) rfl)
         have e9:=hall ⟨9,.data⟩ (by simp) rfl
         simp only at e9
         rw [hls,e9] at hw
         obtain ⟨⟨W3,news,hb3,hgrow,hown',hfresh,hnr⟩,e8⟩:=hw.end_
         have hbw : Below W.heap.size W W3:=hb2.drew.trans (hb3.mono hb2.size)
         have hi3:=hi.turn (turn_below (T:=T) hbw)
         have hL3 : wL.heap.size + 2 ≤ W3.heap.size:=Nat.le_trans hsW hbw.size
         have hbxh : w'.heap[w.heap.size + 1]? = some (.cells #[v] 27 (0,0)):=by
          rw [hgrow.block _ (by omega) (fun q => by have:=(hi3.row.lt _ q.symm).1;omega)];exact hi3.box
         have hbx : w'.cell? ⟨w.heap.size + 1,0,none⟩ = some v:=by simp only [World.cell?,hbxh];rfl
         have hbf : w'.frozen? ⟨w.heap.size + 1,0,none⟩ = false:=by simp only [World.frozen?,hbxh];rfl
         obtain ⟨A9,n9,c9,rfl⟩ : ∃ A9 n9 c9,u49 = .slice A9 n9 c9:=by rcases hown'.2 with ⟨h,_⟩ | ⟨_,_,_,h,_⟩ <;> exact ⟨_,_,_,h⟩
         obtain ⟨q1,q2,q3⟩:=hi3.grow (m:=(rangeL s es).length) hL3 hgrow hown' hfresh (by rw [flat_len (ents_elems _).len,List.length_map];rfl) hnr
         go_simp
         exact hK _ _ ⟨u48,.slice A9 n9 c9,hsz',hS.idle (by simp),h8,h7,h9,by
          show WF3 _ _ _ _ (ls 8) (ls 9) true
          rw [e8,e9]
          refine .p3 ⟨(round_below hbw).trans q2,kpl_trans (kpl_below hi hbw) q3,.slice A9 n9 c9,xs ++ news,?_⟩
          have e : (pre ++ [(⟨(.pointer (some pa),es),hxr,hxs,hxl,hxsh⟩ : LV w O)]).flatMap (fun x => rangeL s x.1.2) = (pre.flatMap fun x => rangeL s x.1.2) ++ rangeL s es:=by simp
          rw [e,List.length_append,List.map_append,List.flatMap_append]
          exact q1⟩
       | k + 11,ho => simp at ho
    · have hno : rangeL s es = []:=by rw [hsel];exact List.drop_eq_nil_of_le (by rw [List.length_take];omega)
      exact ⟨round_below hb1,kpl_below hi hb1,RangeI.skip (hi.turn (turn_below hb1)) hno⟩
  | true =>
    rw [hse] at g2
    gi_wp2
    refine ⟨trivial,(CallsIn.inRound l (callsIn_wide.2 (place_calls s.t es [] _ hxs (by omega) (or_lt hO hbW1.size) (rep_in hxr hbW1) (rep_in hvt hbW1)))).mono ?_⟩
    rintro e Wt ⟨rfl,hbt1⟩
    have hbt : Below W.heap.size W Wt:=hb1.trans (hbt1.mono hb1.size)
    have hbWt:=hbW1.trans (hbt1.mono hbW1.size)
    have hpt : Wt.cell? pa = some (.slice A es.length c):=by rw [cell_same (hbWt.block _ (cell_lt p0'))];exact p0'
    obtain ⟨to,hto⟩ : ∃ to,Keep (to = ltc s.t es):=⟨_,⟨rfl⟩⟩
    have htl : to ≤ es.length:=by rw [hto.out];exact ltc_le _ _
    have htc : to ≤ c:=Nat.le_trans htl hce
    have hsel : rangeL s es = (es.take to).drop fr:=by rw [rangeL_slice s hxs,hse,hfr.out,hto.out];rfl
    rw [← hto.out]
    dsimp only
    gi_wp2
    · skip
      have hft : fr < to:=by assumption
      have hfl : fr ≤ to:=Nat.le_of_lt hft
      have hb2:=hbt
      have hp2:=hpt
      have hbW2:=hbWt
      generalize Wt = W2 at hb2 hp2 hbW2 ⊢
      refine wpIn_region_inv mixed (by kernel_rfl) (by simp) (fun ls a' w' => ∃ u48 u49,a'.tmps.size = 51 ∧ SF [(5,none,.pointer (some ⟨w.heap.size + 1,0,none⟩)),(6,none,.pointer (some pa)),(7,none,.int .i64 fr),(9,none,.int .i64 to),(40,some 0,v),(41,some 1,.pointer (some pa)),(42,some 2,.pointer (some pa)),
       (43,some 3,.pointer (some pa)),(44,some 4,.slice A es.length c),(45,some 5,.int .i64 fr),(46,some 6,.int .i64 to),(47,some 7,.slice (if c = fr then A else A.map (·.add (fr * 2))) (to - fr) (c - fr)),(48,some 8,u48),(49,some 9,u49)] ls a' ∧
       (ls 8 = true → ls 4 = true ∧ ls 7 = true) ∧ (ls 7 = true → ls 4 = true) ∧ (ls 9 = true → ls 0 = true) ∧
       WF3 (w' = W2.drew) (Below W2.drew.heap.size W2.drew w' ∧ RepV w' (OR O w.heap.size W2.drew.heap.size) (.sl (some 2) ((rangeL s es).map entV)) u48)
        (∃ W3 news,Below W2.drew.heap.size W2.drew W3 ∧ W3.grownBy w' v.ownBlock ∧ w'.ownsRow (wL.heap.size + 2) 33 2 u49 ((pre.flatMap fun x => rangeL s x.1.2).length + (rangeL s es).length) (xs ++ news) ∧ (u49.ownBlock = v.ownBlock ∨ u49.ownBlock = some W3.heap.size) ∧ CellsRep W3 (OX O w.heap.size wL.heap.size T v) (((rangeL s es).map entV).flatMap PV.cells) news)
        (KeepsOthers W w' ∧ KpL w.heap.size T W w' ∧ RangeI w wL O s (pre ++ [⟨(.pointer (some pa),es),hxr,hxs,hxl,hxsh⟩]) T w') (ls 8) (ls 9) (ls 10)) ?h0 ?step ?fin
      case h0 =>
       refine ⟨Go.undef,Go.undef,rfl,SF.start fun e he hn => ?_,fun h => Bool.noConfusion h,fun h => Bool.noConfusion h,fun h => Bool.noConfusion h,WF3.p0 rfl⟩
       simp only [List.mem_cons,List.not_mem_nil,or_false] at he
       rcases he with rfl | rfl | rfl | rfl | rfl | rfl | rfl | rfl | rfl | rfl | rfl | rfl | rfl | rfl <;> first | rfl | cases hn
      case fin =>
       rintro ls a' w' ⟨u48,u49,_,_,_,_,_,hw⟩ hall
       rw [hall 8 (by decide),hall 9 (by decide),hall 10 (by decide)] at hw
       cases hw with
       | p3 h => exact h
      case step =>
       rintro ls a' w' K i o ⟨u48,u49,hsz',hS,h8,h7,h9,hw⟩ ho hls hall hK
       have f5:=hS.base (k:=5) (v := .pointer (some ⟨w.heap.size + 1,0,none⟩)) (by simp)
       have f6:=hS.base (k:=6) (v := .pointer (some pa)) (by simp)
       have f7:=hS.base (k:=7) (v := .int .i64 fr) (by simp)
       have f9:=hS.base (k:=9) (v := .int .i64 to) (by simp)
       have h9f : ls 0 = false → ls 9 = false:=fun h => by
        cases hh : ls 9 with
        | false => rfl
        | true => rw [h9 hh] at h;cases h
       have h8f : ls 4 = false → ls 8 = false:=fun h => by
        cases hh : ls 8 with
        | false => rfl
        | true => rw [(h8 hh).1] at h;cases h
       match i,ho with
       | 0,ho =>
         obtain rfl:=Option.some.inj ho
         have hw0:=hw
         rw [h9f hls] at hw0
         have hbw : Below W.heap.size W w':=by
          rcases hw0.low.1 with rfl | ⟨h,_⟩
          · exact hb2.drew
          · exact hb2.drew.trans (h.mono hb2.size)
         have hbx : w'.cell? ⟨w.heap.size + 1,0,none⟩ = some v:=by simp only [World.cell?,(hi.turn (turn_below (T:=T) hbw)).box];rfl
         go_simp
         exact hK _ _ ⟨u48,u49,by simpa using hsz',hS.put (d:=40) (by omega) (by simp),h8,h7,fun _ => rfl,hw⟩
       | 1,ho =>
         obtain rfl:=Option.some.inj ho
         go_simp
         exact hK _ _ ⟨u48,u49,by simpa using hsz',hS.put (d:=41) (by omega) (by simp),h8,h7,h9,hw⟩
       | 2,ho =>
         obtain rfl:=Option.some.inj ho
         have f41:=hS.get (k:=41) (j:=1) (v := .pointer (some pa)) (by simp) (hall ⟨1,.data⟩ (by simp) rfl)
         go_simp
         exact hK _ _ ⟨u48,u49,by simpa using hsz',hS.put (d:=42) (by omega) (by simp),h8,h7,h9,hw⟩
       | 3,ho =>
         obtain rfl:=Option.some.inj ho
         have f42:=hS.get (k:=42) (j:=2) (v := .pointer (some pa)) (by simp) (hall ⟨1 + 1,.data⟩ (by simp) rfl)
         go_simp
         exact hK _ _ ⟨u48,u49,by simpa using hsz',hS.put (d:=43) (by omega) (by simp),h8,h7,h9,hw⟩
       | 4,ho =>
         obtain rfl:=Option.some.inj ho
         have f43:=hS.get (k:=43) (j:=3) (v := .pointer (some pa)) (by simp) (hall ⟨3,.data⟩ (by simp) rfl)
         have hw0:=hw
         rw [h8f hls] at hw0
         obtain ⟨rfl,e9,e10⟩:=hw0.start
         have hp2d : W2.drew.cell? pa = some (.slice A es.length c):=hp2
         go_simp
         exact hK _ _ ⟨u48,u49,by simpa using hsz',hS.put (d:=44) (by omega) (by simp),fun h => ⟨rfl,(h8 h).2⟩,fun _ => rfl,h9,hw⟩
       | 5,ho =>
         obtain rfl:=Option.some.inj ho
         go_simp
         exact hK _ _ ⟨u48,u49,by simpa using hsz',hS.put (d:=45) (by omega) (by simp),h8,h7,h9,hw⟩
       | 6,ho =>
         obtain rfl:=Option.some.inj ho
         go_simp
         exact hK _ _ ⟨u48,u49,by simpa using hsz',hS.put (d:=46) (by omega) (by simp),h8,h7,h9,hw⟩
       | 7,ho =>
         obtain rfl:=Option.some.inj ho
         have f44:=hS.get (k:=44) (j:=4) (v := .slice A es.length c) (by simp) (hall ⟨4,.data⟩ (by simp) rfl)
         have f45:=hS.get (k:=45) (j:=5) (v := .int .i64 fr) (by simp) (hall ⟨5,.data⟩ (by simp) rfl)
         have f46:=hS.get (k:=46) (j:=6) (v := .int .i64 to) (by simp) (hall ⟨6,.data⟩ (by simp) rfl)
         go_simp
         exact hK _ _ ⟨u48,u49,by simpa using hsz',hS.put (d:=47) (by omega) (by simp),fun h => ⟨(h8 h).1,rfl⟩,fun _ => hall ⟨4,.data⟩ (by simp) rfl,h9,hw⟩
       | 8,ho =>
         obtain rfl:=Option.some.inj ho
         have f47:=hS.get (k:=47) (j:=7) (v := .slice (if c = fr then A else A.map (·.add (fr * 2))) (to - fr) (c - fr)) (by simp) (hall ⟨7,.data⟩ (by simp) rfl)
         have hw0:=hw
         rw [hls] at hw0
         obtain ⟨rfl,e9,e10⟩:=hw0.start
         go_simp
         have hcut : RepV W2.drew (OR O w.heap.size W2.drew.heap.size) (.sl (some 2) ((rangeL s es).map entV)) (.slice (if c = fr then A else A.map (·.add (fr * 2))) (to - fr) (c - fr)):=by
          have:=(rep_in re (W:=W2.drew) hbW2.drew).cut (l:=fr) (e:=to) (m:=c) hfl (by rw [List.length_map];exact htl) (Nat.le_trans htl hce) (Nat.le_refl _)
          rw [← List.map_take,← List.map_drop,← hsel] at this
          exact this
         refine ⟨trivial,(CallsIn.inRound l (callsIn_wide.2 (copied_calls (rangeL s es) (by have:=rangeL_le s es;omega) (fun e he => hxsh e (List.mem_filter.1 he).1) (or_lt hO hbW2.drew.size) hcut))).mono ?_⟩
         rintro e W3 ⟨u,rfl,hru,hb3⟩
         exact hK _ _ ⟨u,u49,by simpa using hsz',(hS.swap (by simp [hls])).put (d:=48) (by omega) (by simp),fun _ => ⟨h7 (hall ⟨7,.data⟩ (by simp) rfl),hall ⟨7,.data⟩ (by simp) rfl⟩,h7,h9,by
          show WF3 _ _ _ _ true (ls 9) (ls 10)
          rw [e9,e10]
          exact .p1 ⟨hb3,hru⟩⟩
       | 9,ho =>
         obtain rfl:=Option.some.inj ho
         have f40:=hS.get (k:=40) (j:=0) (v:=v) (by simp) (hall ⟨0,.data⟩ (by simp) rfl)
         have f48:=hS.get (k:=48) (j:=8) (v:=u48) (by simp) (hall ⟨8,.data⟩ (by simp) rfl)
         have hw0:=hw
         have e8:=hall ⟨8,.data⟩ (by simp) rfl
         simp only at e8
         rw [hls,e8] at hw0
         obtain ⟨⟨hb3,hru⟩,e10⟩:=hw0.mid
         have hbw : Below W.heap.size W w':=hb2.drew.trans (hb3.mono hb2.size)
         have hi3:=hi.turn (turn_below (T:=T) hbw)
         obtain ⟨i0,hi0,hz0,hz1,hz2⟩:=info_parts wi33
         have hne : (rangeL s es).map entV ≠ []:=by
          rw [hsel]
          intro h
          have:=congrArg List.length h
          simp at this
          omega
         obtain ⟨ad,cp,news,rfl,hcp,hnl,hnc,hn1,hnr⟩:=rep_cells hru hne (ents_elems _) (by decide)
         rw [List.length_map] at hcp hnl f48
         have hm0 : 0 < (rangeL s es).length:=List.length_pos_iff.2 fun h => hne (by rw [h];rfl)
         have hpl:=ranged_le s pre
         have hle4:=rangeL_le s es
         have hlv:=leaves_le s0.d s0.t
         refine step_append_fresh w' (.tmp 40) (.tmp 48) 27 rfl (wL.heap.size + 2) 33 i0 (.agg #[.slice none 0 0,.slice none 0 0]) 2 48 w27 hi0 hz0 hz1 hz2 rfl (by decide) v _ xs f40 hi3.row ad (rangeL s es).length cp news f48 hnl hnc hn1 hm0 (by unfold maxLen;omega) (by omega) (Nat.le_trans hsW hbw.size) ?_
         intro v' w4 hown' hgrow hfresh _
         exact hK _ _ ⟨.slice (some ad) ((rangeL s es).map entV).length cp,v',by show (a'.tmps.setIfInBounds 49 v').size = 51;simpa using hsz',(hS.swap (by simp [hls])).put (d:=49) (by omega) (by simp),h8,h7,fun _ => hall ⟨0,.data⟩ (by simp) rfl,by
          show WF3 _ _ _ _ (ls 8) true (ls 10)
          rw [e8,e10]
          exact .p2 ⟨w',news,hb3,hgrow,hown',hfresh,hnr.move fun k _ hk => ⟨rfl,hi.or_ox hsW hb2.drew k hk⟩⟩⟩
       | 10,ho =>
         obtain rfl:=Option.some.inj ho
         have f49:=hS.get (k:=49) (j:=9) (v:=u49) (by simp) (hall ⟨9,.data⟩ (by simp) rfl)
         have e9:=hall ⟨9,.data⟩ (by simp) rfl
         simp only at e9
         rw [hls,e9] at hw
         obtain ⟨⟨W3,news,hb3,hgrow,hown',hfresh,hnr⟩,e8⟩:=hw.end_
         have hbw : Below W.heap.size W W3:=hb2.drew.trans (hb3.mono hb2.size)
         have hi3:=hi.turn (turn_below (T:=T) hbw)
         have hL3 : wL.heap.size + 2 ≤ W3.heap.size:=Nat.le_trans hsW hbw.size
         have hbxh : w'.heap[w.heap.size + 1]? = some (.cells #[v] 27 (0,0)):=by
          rw [hgrow.block _ (by omega) (fun q => by have:=(hi3.row.lt _ q.symm).1;omega)];exact hi3.box
         have hbx : w'.cell? ⟨w.heap.size + 1,0,none⟩ = some v:=by simp only [World.cell?,hbxh];rfl
         have hbf : w'.frozen? ⟨w.heap.size + 1,0,none⟩ = false:=by simp only [World.frozen?,hbxh];rfl
         obtain ⟨A9,n9,c9,rfl⟩ : ∃ A9 n9 c9,u49 = .slice A9 n9 c9:=by rcases hown'.2 with ⟨h,_⟩ | ⟨_,_,_,h,_⟩ <;> exact ⟨_,_,_,h⟩
         obtain ⟨q1,q2,q3⟩:=hi3.grow (m:=(rangeL s es).length) hL3 hgrow hown' hfresh (by rw [flat_len (ents_elems _).len,List.length_map];rfl) hnr
         go_simp
         exact hK _ _ ⟨u48,.slice A9 n9 c9,hsz',hS.idle (by simp),h8,h7,h9,by
          show WF3 _ _ _ _ (ls 8) (ls 9) true
          rw [e8,e9]
          refine .p3 ⟨(round_below hbw).trans q2,kpl_trans (kpl_below hi hbw) q3,.slice A9 n9 c9,xs ++ news,?_⟩
          have e : (pre ++ [(⟨(.pointer (some pa),es),hxr,hxs,hxl,hxsh⟩ : LV w O)]).flatMap (fun x => rangeL s x.1.2) = (pre.flatMap fun x => rangeL s x.1.2) ++ rangeL s es:=by simp
          rw [e,List.length_append,List.map_append,List.flatMap_append]
          exact q1⟩
       | k + 11,ho => simp at ho
    · have hno : rangeL s es = []:=by rw [hsel];exact List.drop_eq_nil_of_le (by rw [List.length_take];omega)
      exact ⟨round_below hbt,kpl_below hi hbt,RangeI.skip (hi.turn (turn_below hbt)) hno⟩
 case done =>
  rintro zs T W hS ⟨v,xs,hi⟩ hK
  have hbox : W.cell? ⟨w.heap.size + 1,0,none⟩ = some v:=by simp only [World.cell?,hi.box];rfl
  gi_wp2
  refine ⟨by simp,.inl ⟨_,_,rfl,run_takeDeferred hK,?_⟩⟩
  have e : zs.flatMap (fun x => rangeL s x.1.2) = rangeL s (flat d t):=by rw [hs0] at hS;exact rangeL_flat s zs hS
  rw [e,← List.length_map (f:=entV)] at hi
  obtain ⟨h1,h2⟩:=OutAt.final (sh:=some 2) hi (ents_elems _) (.deferred none)
  refine ⟨_,results_tmp rfl _ _ _,v,rfl,h1,h2⟩
end Go.Proofs.Ytnieankaikhmnaa

set_option linter.unusedVariables false
namespace Go.Ev
open Go.RowKit
theorem reads_spec {P : Program} {f : FuncId} {os outs : List OV} {r : PV} (houts : ∀ (i : Nat) (o : OV),outs[i]? = some o → o ≠ .flat .gone → os[i]? = some o)
 (h : ∀ (w : World) (Oc : Nat → Prop) (us : List Value) (ab : Blk),us.length = os.length → (∀ k,Oc k → k < w.heap.size) → SRel w Oc (startSlots 0 os) (fun t => us.getD t Go.undef) ab →
   Calls P f us.toArray w fun e w' => ∃ v,e = .returned v ∧ RepV w' (ab.off Oc) r v ∧ Below w.heap.size w w') : CallSpec P f os [.flat (.val r)] outs:=by
 intro w Oc us ab hlen hOc hS
 refine (h w Oc us ab hlen hOc hS).mono fun e w' ⟨v,he,hr,hb⟩ => ⟨v,he,⟨hb.os,hb.tape,hb.output,hb.size,fun k hk _ => hb.block k hk⟩,⟨us.length,startSlots 0 (os ++ [.flat (.val r)]),fun t => if t = us.length then v else us.getD t Go.undef,ab,?_,fun t c k q => .inl ⟨t,c,q⟩,Nat.le_refl _,fun i o hi hg => ?_,fun j o hj => ?_,?_⟩⟩
 · have hS' : SRel w' Oc (startSlots 0 os) (fun t => us.getD t Go.undef) ab:=hS.world hb.size (fun k hk _ => hb.block k hk) (fun k _ q => q)
   refine ⟨fun t => ?_,hS'.inj,hS'.out⟩
   have ht:=hS'.rep t
   rw [get_start,if_pos (Nat.zero_le _),Nat.sub_zero] at ht ⊢
   rcases Nat.lt_trichotomy t us.length with hlt | heq | hgt
   · rw [List.getElem?_append_left (by omega)]
     simp only [if_neg (Nat.ne_of_lt hlt)]
     cases ho : os[t]? with
     | none => rw [List.getElem?_eq_none_iff] at ho;omega
     | some o =>
       rw [ho] at ht
       exact ht
   · subst heq
     have hn : os[us.length]? = none:=List.getElem?_eq_none (by omega)
     rw [hn] at ht
     have hd : ∀ c,ab us.length c = none:=ht
     rw [hlen,List.getElem?_append_right (Nat.le_refl _),Nat.sub_self,← hlen]
     simp only [if_true]
     show ORep w' _ _ v (ab us.length none) (fun j => ab us.length (some j))
     have e : (fun j => ab us.length (some j)) = fun _ => none:=funext fun j => hd _
     rw [hd none,e]
     exact .flat _ _ _ (.val _ _ hr)
   · have hn : os[t]? = none:=List.getElem?_eq_none (by omega)
     rw [hn] at ht
     have hd : ∀ c,ab t c = none:=ht
     rw [List.getElem?_eq_none (by simp;omega)]
     exact hd
 · have hoi:=houts i o hi hg
   have hil:=(List.getElem?_eq_some_iff.1 hoi).1
   refine ⟨?_,?_,by omega⟩
   · rw [get_start,if_pos (Nat.zero_le _),Nat.sub_zero,List.getElem?_append_left hil,hoi]
   · simp only [if_neg (show i ≠ us.length by omega)]
 · cases j with
   | zero =>
     simp at hj
     subst hj
     rw [get_start,if_pos (Nat.zero_le _),Nat.sub_zero,Nat.add_zero,hlen,List.getElem?_append_right (Nat.le_refl _),Nat.sub_self]
     rfl
   | succ j => simp at hj
 · simp [resultVal]
theorem box_inv {w : World} {O : Nat → Prop} {p : PV} {u : Value} {b : Option Nat} {β : Nat → Option Nat} (h : ORep w O (.cont .box [.val p]) u b β) : ∃ tb x,u = .pointer (some ⟨tb,0,none⟩) ∧ w.cell? ⟨tb,0,none⟩ = some x ∧ RepV w O p x:=by
 cases h with
 | box cs b cur e fr β hb ht hl hk hc =>
   obtain ⟨x,hx,hr⟩:=hc.rep 0 _ rfl
   refine ⟨b,x,rfl,?_,hr.val_inv.1⟩
   simp only [World.cell?,hb]
   exact hx
theorem off_lt {w : World} {Oc : Nat → Prop} {st : Slots} {tm : Nat → Value} {ab : Blk} (hS : SRel w Oc st tm ab) (hOc : ∀ k,Oc k → k < w.heap.size) : ∀ k,ab.off Oc k → k < w.heap.size:=fun k q => by
 rcases q with ⟨t,c,q⟩ | q
 · exact (hS.out t c k q).2
 · exact hOc k q
end Go.Ev
namespace Go.Proofs.Ytnieankaikhmnaa
open Go Go.Ev Go.RowKit Go.T14
theorem range_spec {os : List OV} {rr : List OV × List OV} (h : primRange os = some rr) : CallSpec Try.prog 10 os rr.1 rr.2:=by
 obtain ⟨d,t,s,hg,rfl,rfl⟩:=primRange_inv h
 refine reads_spec (fun i o hi _ => ?_) fun w Oc us ab hlen hOc hS => ?_
 · match i with
   | 0 => exact hi
   | i + 1 => simp at hi
 · match us,hlen with
   | [u0,u1],_ =>
     have h0 : ORep w (ab.off Oc) (.cont .box [.val (enc d t)]) u0 (ab 0 none) (fun j => ab 0 (some j)):=hS.rep 0
     have h1 : ORep w (ab.off Oc) (.flat (.val (spV s))) u1 (ab 1 none) (fun j => ab 1 (some j)):=hS.rep 1
     obtain ⟨tb,x,rfl,hc,hr⟩:=box_inv h0
     exact range_calls s hg (off_lt hS hOc) hc hr (ORep.flat_inv h1).1.val_inv.1
end Go.Proofs.Ytnieankaikhmnaa

set_option linter.unusedVariables false
namespace Go.Proofs.Ytnieankaikhmnaa
open Go Go.Ev Go.RowKit Go.Shelf Go.T14 Go.W14
attribute [local go_sem] Oper.semAt_some
abbrev pgs {w : World} {O : Nat → Prop} (pre : List (LV w O)) : List PV:=pre.map fun x => PV.sl (some 2) (x.1.2.map entV)
def PagesI (w wL : World) (O : Nat → Prop) (pre : List (LV w O)) (T : Nat → Prop) (W : World) : Prop :=
 ∃ v xs,OutAt w wL O w.heap.size 51 27 1 v xs (pgs pre).length ((pgs pre).flatMap PV.cells) T W
theorem PagesI.turn {w wL : World} {O : Nat → Prop} : AbidesX (PagesI w wL O):=fun _ T T' W W' ⟨v,xs,h⟩ ht => ⟨v,xs,h.turn ht⟩
theorem pgs_elems {w : World} {O : Nat → Prop} (pre : List (LV w O)) : Elems none (pgs pre):=by
 refine ⟨fun x hx => ?_,fun x hx => ?_,fun x hx y hy => ?_⟩ <;> obtain ⟨e,_,rfl⟩:=List.mem_map.1 hx
 · rfl
 · rfl
 · rcases List.mem_cons.1 hy with rfl | hy
   · rfl
   · cases hy
theorem w51 : Try.prog.underlying 51 = some (.slice 27):=by kernel_rfl
theorem wi27 : (Try.prog.info? 27).map (fun i => (i.zero,i.size,i.bytes)) = some (some (.slice none 0 0),1,24):=by kernel_rfl
set_option maxHeartbeats 4000000 in
set_option maxRecDepth 100000 in
theorem pages_calls {d : Nat} {t : Tr d} (hg : T14.Good d t) {w : World} {O : Nat → Prop} (hO : ∀ k,O k → k < w.heap.size) {tb : Nat} {u : Value} (hc : w.cell? ⟨tb,0,none⟩ = some u) (hu : RepV w O (enc d t) u) :
 Calls Try.prog 21 #[.pointer (some ⟨tb,0,none⟩)] w fun e w' => ∃ v,e = .returned v ∧ RepV w' O (.sl none ((leaves d t).map fun l => .sl (some 2) (l.map entV))) v ∧ Below w.heap.size w w':=by
 obtain ⟨a,rfl⟩:=kid_rep hu
 refine (callsIn_wide (n:=3)).1 ?_
 refine callsIn_of_wp_marks Try.func21 rfl trivial ?_ rfl
 simp only [Try.ntmps21,List.size_toArray,List.length_cons,List.length_nil,Nat.reduceAdd,Nat.reduceSub,Array.replicate_succ,Array.replicate_zero,List.push_toArray,List.append_toArray,List.nil_append,List.cons_append]
 have htl:=cell_lt hc
 have hcw : (w.alloc (.cells #[.slice none 0 0] 51)).cell? ⟨tb,0,none⟩ = some (.pointer (some a)):=by
  rw [cell_same (w:=w) (Below.heap_alloc _ _ _ htl)];exact hc
 gi_wp2_with (refine ⟨trivial,?_⟩;gi_at_call 23;refine (leaves_call _ _ trivial rfl _ _).mono ?_;rintro e w' ⟨rfl,rfl⟩)
 have hsz : ((w.alloc (.cells #[.slice none 0 0] 51)).alloc (.cells #[.pointer (some a)] 55)).heap.size = w.heap.size + 2:=by simp
 have hbL : Below w.heap.size w ((w.alloc (.cells #[.slice none 0 0] 51)).alloc (.cells #[.pointer (some a)] 55)):=((Below.refl _ w).alloc (Nat.le_refl _) _).alloc (by simp) _
 have hB1 : ((w.alloc (.cells #[.slice none 0 0] 51)).alloc (.cells #[.pointer (some a)] 55)).heap[w.heap.size]? = some (.cells #[.slice none 0 0] 51 (0,0)):=by
  rw [Below.heap_alloc _ _ _ (by simp)];exact World.alloc_heap_new w _
 have hB2 : ((w.alloc (.cells #[.slice none 0 0] 51)).alloc (.cells #[.pointer (some a)] 55)).cell? ⟨w.heap.size + 1,0,none⟩ = some (.pointer (some a)):=by
  have:=World.alloc_heap_new (w.alloc (.cells #[.slice none 0 0] 51)) (.cells #[.pointer (some a)] 55);rw [World.size_alloc] at this;simp only [World.cell?,this];rfl
 generalize ((w.alloc (.cells #[.slice none 0 0] 51)).alloc (.cells #[.pointer (some a)] 55)) = wL at hsz hbL hB1 hB2 ⊢
 obtain ⟨s0,hs0⟩ : ∃ s0 : SP w O,s0 = ⟨a,d,t,hu,hg.okr,hg.sorted,hg.short⟩:=⟨_,rfl⟩
 have hnod : nodesOf s0.d s0.t ≤ 10000000:=by rw [hs0];exact Nat.le_trans (nodes_okr d t hg.okr) (Nat.le_trans (Nat.pow_le_pow_right (by decide) hg.deep) (by decide))
 refine wpIn_rangeFunc_X (α := LV w O) rfl (by decide) (gf:=39) (lb := #[.pointer (some ⟨w.heap.size + 1,0,none⟩)]) rfl trivial (enters_of Try.func39 (by kernel_rfl) rfl)
  (leaves_seq Fence.wide 2 trivial rfl (by decide) (w.heap.size + 1) w wL O s0 hnod hbL (by rw [hB2,hs0];rfl)) kpl_trans (fun T W o h => kpl_put o (by omega) h) (Below.refl _ _) (fun _ => rfl)
  (PagesI w wL O) PagesI.turn (fun _ T W o ⟨v,xs,h⟩ => ⟨v,xs,h.put o⟩) ?start
  (fun x => { tmps := #[.pointer (some ⟨tb,0,none⟩),undef,.slice none 0 0,.pointer (some ⟨w.heap.size,0,none⟩),x.1.1,.pointer (some ⟨tb,0,none⟩),.pointer (some ⟨tb,0,none⟩),.pointer (some ⟨tb,0,none⟩),.pointer (some a),.func (.func 39) #[] #[.pointer (some ⟨w.heap.size + 1,0,none⟩)],x.1.1,undef,undef,undef,undef,undef,undef,undef,undef,undef],defers:=[] }) ?assign ?body ?done
 case start =>
  exact ⟨.slice none 0 0,[],hO,by omega,by omega,hbL,Nat.le_refl _,fun k h => h.elim,hbL.os,hbL.tape,hbL.output,fun k _ _ => rfl,hB1,World.ownsRow_nil _ _ _ _,fun g h => by simp [Value.ownBlock] at h,by simp [pgs],fun q y h => by simp [pgs] at h⟩
 case assign =>
  intro l x W K hK
  gi_wp2
  exact hK
 case body =>
  rintro l pre x T W ⟨v,xs,hi⟩ hlen hsW hT
  obtain ⟨⟨xv,es⟩,hxr,hxs,hxl,hxsh⟩:=x
  simp only at hxr hxs hxl hxsh ⊢
  obtain ⟨pa,rfl⟩:=kid_rep hxr
  obtain ⟨⟨ve,vb,p0,p1,p2,re,rb⟩⟩:=page_at (c:=List.length (α := Ent) es) hxr
  have hbW:=hi.below
  obtain ⟨A,c,rfl,hce⟩:=sl_inv re
  rw [List.length_map] at hce p0 re
  have p0' : w.cell? pa = some (.slice A es.length c):=p0
  have hp2 : W.cell? pa = some (.slice A es.length c):=by rw [cell_same (hbW.block _ (cell_lt p0'))];exact p0'
  gi_wp2
  refine wpIn_region_inv mixed (by kernel_rfl) (by simp) (fun ls a' w' => ∃ A16 n16 c16 u17 u18,a'.tmps.size = 20 ∧ SF [(3,none,.pointer (some ⟨w.heap.size,0,none⟩)),(4,none,.pointer (some pa)),(11,some 0,v),(12,some 1,.pointer (some pa)),(13,some 2,.pointer (some pa)),
   (14,some 3,.pointer (some pa)),(15,some 4,.slice A es.length c),(16,some 5,.slice A16 n16 c16),(17,some 6,u17),(18,some 7,u18)] ls a' ∧
   (ls 5 = true → ls 4 = true) ∧ (ls 7 = true → ls 0 = true ∧ ls 6 = true) ∧ (ls 6 = true → ls 5 = true ∧ (ls 7 = false → ∃ g,u17 = .slice (some ⟨g,0,none⟩) 1 1 ∧ w'.cell? ⟨g,0,none⟩ = some (.slice A16 n16 c16))) ∧
   WF3 (w' = W.drew) (Below W.drew.heap.size W.drew w' ∧ RepV w' (OR O w.heap.size W.drew.heap.size) (.sl (some 2) (es.map entV)) (.slice A16 n16 c16))
    (∃ W3 news,Below W.drew.heap.size W.drew W3 ∧ W3.grownBy w' v.ownBlock ∧ w'.ownsRow (wL.heap.size + 2) 27 1 u18 ((pgs pre).length + 1) (xs ++ news) ∧ (u18.ownBlock = v.ownBlock ∨ u18.ownBlock = some W3.heap.size) ∧ CellsRep W3 (OX O w.heap.size wL.heap.size T v) ([PV.sl (some 2) (es.map entV)].flatMap PV.cells) news)
    (KeepsOthers W w' ∧ KpL w.heap.size T W w' ∧ PagesI w wL O (pre ++ [⟨(.pointer (some pa),es),hxr,hxs,hxl,hxsh⟩]) T w') (ls 5) (ls 7) (ls 8)) ?h0 ?step ?fin
  case h0 =>
   refine ⟨none,0,0,Go.undef,Go.undef,rfl,SF.start fun e he hn => ?_,fun h => Bool.noConfusion h,fun h => Bool.noConfusion h,fun h => Bool.noConfusion h,WF3.p0 rfl⟩
   simp only [List.mem_cons,List.not_mem_nil,or_false] at he
   rcases he with rfl | rfl | rfl | rfl | rfl | rfl | rfl | rfl | rfl | rfl <;> first | rfl | cases hn
  case fin =>
   rintro ls a' w' ⟨A16,n16,c16,u17,u18,_,_,_,_,_,hw⟩ hall
   rw [hall 5 (by decide),hall 7 (by decide),hall 8 (by decide)] at hw
   cases hw with
   | p3 h => exact h
  case step =>
   rintro ls a' w' K i o ⟨A16,n16,c16,u17,u18,hsz',hS,h5,h7,h6,hw⟩ ho hls hall hK
   have f3:=hS.base (k:=3) (v := .pointer (some ⟨w.heap.size,0,none⟩)) (by simp)
   have f4:=hS.base (k:=4) (v := .pointer (some pa)) (by simp)
   have h7f : ls 0 = false → ls 7 = false:=fun h => by
    cases hh : ls 7 with
    | false => rfl
    | true => rw [(h7 hh).1] at h;cases h
   have h5f : ls 4 = false → ls 5 = false:=fun h => by
    cases hh : ls 5 with
    | false => rfl
    | true => rw [h5 hh] at h;cases h
   match i,ho with
   | 0,ho =>
     obtain rfl:=Option.some.inj ho
     have hw0:=hw
     rw [h7f hls] at hw0
     have hbw : Below W.heap.size W w':=by
      rcases hw0.low.1 with rfl | ⟨h,_⟩
      · exact (Below.refl _ W).drew
      · exact (Below.refl _ W).drew.trans h
     have hbx : w'.cell? ⟨w.heap.size,0,none⟩ = some v:=by simp only [World.cell?,(hi.turn (turn_below (T:=T) hbw)).box];rfl
     go_simp
     exact hK _ _ ⟨A16,n16,c16,u17,u18,by simpa using hsz',hS.put (d:=11) (by omega) (by simp),h5,fun h => ⟨rfl,(h7 h).2⟩,h6,hw⟩
   | 1,ho =>
     obtain rfl:=Option.some.inj ho
     go_simp
     exact hK _ _ ⟨A16,n16,c16,u17,u18,by simpa using hsz',hS.put (d:=12) (by omega) (by simp),h5,h7,h6,hw⟩
   | 2,ho =>
     obtain rfl:=Option.some.inj ho
     have f12:=hS.get (k:=12) (j:=1) (v := .pointer (some pa)) (by simp) (hall ⟨1,.data⟩ (by simp) rfl)
     go_simp
     exact hK _ _ ⟨A16,n16,c16,u17,u18,by simpa using hsz',hS.put (d:=13) (by omega) (by simp),h5,h7,h6,hw⟩
   | 3,ho =>
     obtain rfl:=Option.some.inj ho
     have f13:=hS.get (k:=13) (j:=2) (v := .pointer (some pa)) (by simp) (hall ⟨2,.data⟩ (by simp) rfl)
     go_simp
     exact hK _ _ ⟨A16,n16,c16,u17,u18,by simpa using hsz',hS.put (d:=14) (by omega) (by simp),h5,h7,h6,hw⟩
   | 4,ho =>
     obtain rfl:=Option.some.inj ho
     have f14:=hS.get (k:=14) (j:=3) (v := .pointer (some pa)) (by simp) (hall ⟨3,.data⟩ (by simp) rfl)
     have hw0:=hw
     rw [h5f hls] at hw0
     obtain ⟨rfl,e9,e10⟩:=hw0.start
     have hp2d : W.drew.cell? pa = some (.slice A es.length c):=hp2
     go_simp
     exact hK _ _ ⟨A16,n16,c16,u17,u18,by simpa using hsz',hS.put (d:=15) (by omega) (by simp),fun _ => rfl,h7,h6,hw⟩
   | 5,ho =>
     obtain rfl:=Option.some.inj ho
     have f15:=hS.get (k:=15) (j:=4) (v := .slice A es.length c) (by simp) (hall ⟨4,.data⟩ (by simp) rfl)
     have hw0:=hw
     rw [hls] at hw0
     obtain ⟨rfl,e7,e8⟩:=hw0.start
     have e6 : ls 6 = false:=by
      cases hh : ls 6 with
      | false => rfl
      | true => rw [(h6 hh).1] at hls;cases hls
     go_simp
     refine ⟨trivial,(CallsIn.inRound l (callsIn_wide.2 (copied_calls es (by omega) hxsh (or_lt hO hbW.drew.size) (rep_in re (W:=W.drew) hbW.drew)))).mono ?_⟩
     rintro e W3 ⟨u,rfl,hru,hb3⟩
     obtain ⟨A16',c16',rfl,hc16⟩:=sl_inv hru
     simp only [List.length_map] at hru ⊢
     exact hK _ _ ⟨A16',es.length,c16',u17,u18,by simpa using hsz',(hS.swap (by simp [hls])).put (d:=16) (by omega) (by simp),fun _ => hall ⟨4,.data⟩ (by simp) rfl,h7,fun h => ⟨rfl,fun _ => absurd (show ls 6 = true from h) (by rw [e6];simp)⟩,by
      show WF3 _ _ _ _ true (ls 7) (ls 8)
      rw [e7,e8]
      exact .p1 ⟨hb3,hru⟩⟩
   | 6,ho =>
     obtain rfl:=Option.some.inj ho
     have f16:=hS.get (k:=16) (j:=5) (v := .slice A16 n16 c16) (by simp) (hall ⟨5,.data⟩ (by simp) rfl)
     have e5:=hall ⟨5,.data⟩ (by simp) rfl
     simp only at e5
     have e7 : ls 7 = false:=by
      cases hh : ls 7 with
      | false => rfl
      | true => rw [(h7 hh).2] at hls;cases hls
     have hw0:=hw
     rw [e5,e7] at hw0
     obtain ⟨⟨hb3,hru⟩,e8⟩:=hw0.mid
     have kz : Keep (a'.tmps.size = 20):=⟨hsz'⟩
     clear hsz'
     go_simp
     have h16 : a'.tmps[16]?.getD undef = .slice A16 n16 c16:=by simpa using f16
     rw [h16]
     go_simp
     have hsz':=kz.out
     exact hK _ _ ⟨A16,n16,c16,.slice (some ⟨w'.heap.size,0,none⟩) 1 1,u18,by simpa using hsz',(hS.swap (by simp [hls])).put (d:=17) (by omega) (by simp),h5,fun h => ⟨(h7 h).1,rfl⟩,fun _ => ⟨e5,fun _ => ⟨_,rfl,by
      have:=World.alloc_heap_new w' (.cells #[.slice A16 n16 c16] 27)
      simp only [World.cell?,this]
      rfl⟩⟩,by
      show WF3 _ _ _ _ (ls 5) (ls 7) (ls 8)
      rw [e5,e7,e8]
      exact .p1 ⟨hb3.alloc hb3.size _,hru.move fun k hk hn => ⟨Below.heap_alloc _ _ _ hk,hn⟩⟩⟩
   | 7,ho =>
     obtain rfl:=Option.some.inj ho
     have f11:=hS.get (k:=11) (j:=0) (v:=v) (by simp) (hall ⟨0,.data⟩ (by simp) rfl)
     have f17:=hS.get (k:=17) (j:=6) (v:=u17) (by simp) (hall ⟨6,.data⟩ (by simp) rfl)
     have e6:=hall ⟨6,.data⟩ (by simp) rfl
     simp only at e6
     obtain ⟨e5,h6'⟩:=h6 e6
     obtain ⟨g,rfl,hgc⟩:=h6' hls
     have hw0:=hw
     rw [hls,e5] at hw0
     obtain ⟨⟨hb3,hru⟩,e8⟩:=hw0.mid
     have hbw : Below W.heap.size W w':=(Below.refl _ W).drew.trans hb3
     have hi3:=hi.turn (turn_below (T:=T) hbw)
     obtain ⟨i0,hi0,hz0,hz1,hz2⟩:=info_parts wi27
     have hlv:=leaves_le s0.d s0.t
     have hpl : (pgs pre).length = pre.length:=List.length_map ..
     refine step_append_fresh w' (.tmp 11) (.tmp 17) 51 rfl (wL.heap.size + 2) 27 i0 (.slice none 0 0) 1 24 w51 hi0 hz0 hz1 hz2 rfl (by decide) v _ xs f11 hi3.row ⟨g,0,none⟩ 1 1 [.slice A16 n16 c16] f17 rfl (fun j x hx => ?_) (by simp [Value.oneCell']) (by decide) (by unfold maxLen;omega) (by omega) (Nat.le_trans hsW hbw.size) ?_
     · match j with
       | 0 => cases hx;exact hgc
       | j + 1 => simp at hx
     intro v' w4 hown' hgrow hfresh _
     exact hK _ _ ⟨A16,n16,c16,.slice (some ⟨g,0,none⟩) 1 1,v',by show (a'.tmps.setIfInBounds 18 v').size = 20;simpa using hsz',(hS.swap (by simp [hls])).put (d:=18) (by omega) (by simp),h5,fun _ => ⟨hall ⟨0,.data⟩ (by simp) rfl,e6⟩,fun _ => ⟨e5,fun h => Bool.noConfusion h⟩,by
      show WF3 _ _ _ _ (ls 5) true (ls 8)
      rw [e5,e8]
      refine .p2 ⟨w',[.slice A16 n16 c16],hb3,hgrow,hown',hfresh,fun q y hq => ?_⟩
      match q with
      | 0 => cases hq;exact ⟨_,rfl,hru.move fun k _ hk => ⟨rfl,hi.or_ox hsW (Below.refl _ W).drew k hk⟩⟩
      | q + 1 => simp [PV.cells] at hq⟩
   | 8,ho =>
     obtain rfl:=Option.some.inj ho
     have f18:=hS.get (k:=18) (j:=7) (v:=u18) (by simp) (hall ⟨7,.data⟩ (by simp) rfl)
     have e7:=hall ⟨7,.data⟩ (by simp) rfl
     simp only at e7
     have hw0:=hw
     rw [hls,e7] at hw0
     obtain ⟨⟨W3,news,hb3,hgrow,hown',hfresh,hnr⟩,e5⟩:=hw0.end_
     have hbw : Below W.heap.size W W3:=(Below.refl _ W).drew.trans hb3
     have hi3:=hi.turn (turn_below (T:=T) hbw)
     have hL3 : wL.heap.size + 2 ≤ W3.heap.size:=Nat.le_trans hsW hbw.size
     have hbxh : w'.heap[w.heap.size]? = some (.cells #[v] 51 (0,0)):=by
      rw [hgrow.block _ (by omega) (fun q => by have:=(hi3.row.lt _ q.symm).1;omega)];exact hi3.box
     have hbx : w'.cell? ⟨w.heap.size,0,none⟩ = some v:=by simp only [World.cell?,hbxh];rfl
     have hbf : w'.frozen? ⟨w.heap.size,0,none⟩ = false:=by simp only [World.frozen?,hbxh];rfl
     obtain ⟨A9,n9,c9,rfl⟩ : ∃ A9 n9 c9,u18 = .slice A9 n9 c9:=by rcases hown'.2 with ⟨h,_⟩ | ⟨_,_,_,h,_⟩ <;> exact ⟨_,_,_,h⟩
     obtain ⟨q1,q2,q3⟩:=hi3.grow (m:=1) hL3 hgrow hown' hfresh rfl hnr
     go_simp
     exact hK _ _ ⟨A16,n16,c16,u17,.slice A9 n9 c9,hsz',hS.idle (by simp),h5,h7,fun h => ⟨(h6 h).1,fun h' => absurd (show ls 7 = false from h') (by rw [e7];simp)⟩,by
      show WF3 _ _ _ _ (ls 5) (ls 7) true
      rw [e5,e7]
      refine .p3 ⟨(round_below hbw).trans q2,kpl_trans (kpl_below hi hbw) q3,.slice A9 n9 c9,xs ++ news,?_⟩
      have e : pgs (pre ++ [(⟨(.pointer (some pa),es),hxr,hxs,hxl,hxsh⟩ : LV w O)]) = pgs pre ++ [PV.sl (some 2) (es.map entV)]:=by simp [pgs]
      rw [e,List.length_append,List.flatMap_append]
      exact q1⟩
   | k + 9,ho => simp at ho
 case done =>
  rintro zs T W hS ⟨v,xs,hi⟩ hK
  have hbox : W.cell? ⟨w.heap.size,0,none⟩ = some v:=by simp only [World.cell?,hi.box];rfl
  gi_wp2
  refine ⟨by simp,.inl ⟨_,_,rfl,run_takeDeferred hK,?_⟩⟩
  have e : pgs zs = (leaves d t).map fun l => .sl (some 2) (l.map entV):=by rw [hs0] at hS;rw [← hS];simp [pgs]
  obtain ⟨h1,h2⟩:=OutAt.final (sh:=none) hi (pgs_elems zs) (.deferred none)
  rw [e] at h1
  refine ⟨_,results_tmp rfl _ _ _,v,rfl,h1,h2⟩
theorem pages_spec {os : List OV} {rr : List OV × List OV} (h : primPages os = some rr) : CallSpec Try.prog 21 os rr.1 rr.2:=by
 obtain ⟨d,t,hg,rfl,rfl⟩:=primPages_inv h
 refine reads_spec (fun i o hi _ => hi) fun w Oc us ab hlen hOc hS => ?_
 match us,hlen with
 | [u0],_ =>
   have h0 : ORep w (ab.off Oc) (.cont .box [.val (enc d t)]) u0 (ab 0 none) (fun j => ab 0 (some j)):=hS.rep 0
   obtain ⟨tb,x,rfl,hc,hr⟩:=box_inv h0
   exact pages_calls hg (off_lt hS hOc) hc hr
end Go.Proofs.Ytnieankaikhmnaa

set_option linter.unusedVariables false
namespace Go.Proofs.Ytnieankaikhmnaa
open Go Go.Ev Go.T14
theorem prims : ∀ (g : FuncId) p os rr,C.prim g = some p → p os = some rr → CallSpec C.P g os rr.1 rr.2:=by
 intro g p os rr h1 h2
 have h1 : prim g = some p:=h1
 unfold prim at h1
 split at h1
 · cases h1;exact range_spec h2
 · cases h1;exact pages_spec h2
 · cases h1;exact primClone_spec (t:=5) clone_none clone_some h2
 · cases h1;exact primLent_spec lent_none lent_some h2
 · cases h1;exact primOwned_spec owned_nil (fun w b N c0 A n cp g h hN => owned_walk h hN) h2
 · cases h1;exact primKept_spec (fun A0 n c A1 m c1 s0 s1 w r0 r1 hs => kept_no _ _ s0 s1 w (conv22 _ _ _ _ _ r0) (conv22 _ _ _ _ _ r1) hs) (fun b n c A1 m c1 s0 s1 z w r0 r1 hs hm hb hz => kept_yes b n c A1 m c1 s0 s1 z w (conv22 _ _ _ _ _ r0) (conv22 _ _ _ _ _ r1) hs hm hb hz) h2
 · cases h1;exact primBytesCompare_spec cmp_walk h2
 · cases h1;exact cloneE_spec h2
 · cases h1;exact insert_spec h2
 · cases h1;exact replace_spec h2
 · cases h1;exact cloneP_spec h2
 · cases h1;exact delete_spec h2
 · cases h1;exact growE_spec h2
 · cases h1;exact growP_spec h2
 · cases h1
end Go.Proofs.Ytnieankaikhmnaa

