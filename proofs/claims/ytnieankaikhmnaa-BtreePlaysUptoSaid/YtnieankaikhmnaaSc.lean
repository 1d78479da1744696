/- What the functions answer, and the laws. -/
import Derived.Test.YtnieankaikhmnaaSa

set_option linter.unusedVariables false

set_option linter.unusedSimpArgs false

set_option linter.unusedSectionVars false

set_option linter.unusedVariables false
namespace Go.Proofs.Ytnieankaikhmnaa
open Go Go.Ev Go.RowKit Go.Shelf Go.T14 Go.W14
attribute [local go_sem] Oper.semAt_some
theorem parts_frz (l : List Ent) : (l.map entV).flatMap PV.cells = (partsE l).map FV.frz:=by
 induction l with
 | nil => rfl
 | cons e l ih => show [PV.sl none (bb e.k),PV.sl none (bb e.v)] ++ (l.map entV).flatMap PV.cells = [PV.sl none (bb e.k),PV.sl none (bb e.v)] ++ (partsE l).map FV.frz;rw [ih]
theorem parts_whole {l : List Ent} {j : Nat} {f : FV} (h : (partsE l)[j]? = some f) : f.whole = true ∧ ∃ k,f = .own none (bb k) []:=by
 obtain ⟨e,_,he⟩:=List.mem_flatMap.1 (List.mem_of_getElem? h)
 rcases List.mem_cons.1 he with rfl | he
 · exact ⟨rfl,_,rfl⟩
 · rcases List.mem_cons.1 he with rfl | he
   · exact ⟨rfl,_,rfl⟩
   · cases he
theorem parts_cells {W : World} {B : Nat} {l : List Ent} {xs : List Value} {β : Nat → Option Nat} {O : Nat → Prop} (h : PartsAt W B (partsE l) xs β) (hO : ∀ k,B ≤ k → ¬ O k) : CellsRep W O ((l.map entV).flatMap PV.cells) xs:=by
 intro q y hq
 rw [parts_frz,List.getElem?_map,Option.map_eq_some_iff] at hq
 obtain ⟨f,hf,rfl⟩:=hq
 obtain ⟨u,h1,h2⟩:=h.rep q f hf
 exact ⟨u,h1,h2.frz (parts_whole hf).1 (fun _ _ => trivial) fun k hk => hO k (h.ge q k hk).1⟩
theorem parts_one {W : World} {B : Nat} {l : List Ent} {xs : List Value} {β : Nat → Option Nat} (h : PartsAt W B (partsE l) xs β) (hl : xs.length = (partsE l).length) : ∀ u ∈ xs,u.oneCell' = true:=by
 intro u hu
 obtain ⟨j,hj⟩:=List.getElem?_of_mem hu
 have hlt : j < (partsE l).length:=by rw [← hl];exact (List.getElem?_eq_some_iff.1 hj).1
 have hf:=List.getElem?_eq_getElem hlt
 obtain ⟨u',h1,h2⟩:=h.rep j _ hf
 rw [hj] at h1
 cases h1
 obtain ⟨_,k,hk⟩:=parts_whole hf
 rw [hk] at h2
 obtain ⟨A,n,c,rfl⟩:=frep_slice h2
 rfl
theorem partsE_append (a b : List Ent) : partsE (a ++ b) = partsE a ++ partsE b:=by simp [partsE]
def RangeE (w wL : World) (O : Nat → Prop) (s : Sp) (pre : List (LV w O)) (T : Nat → Prop) (W : World) : Prop :=
 ∃ v xs β,OutAt w wL O (w.heap.size + 1) 27 33 2 v xs (pre.flatMap fun x => rangeL s x.1.2).length (((pre.flatMap fun x => rangeL s x.1.2).map entV).flatMap PV.cells) T W ∧
  PartsAt W (wL.heap.size + 2) (partsE (pre.flatMap fun x => rangeL s x.1.2)) xs β ∧ ∀ j g,β j = some g → ¬ T g ∧ v.ownBlock ≠ some g
theorem parts_turn {W W' : World} {T T' : Nat → Prop} {B : Nat} {ps : List FV} {xs : List Value} {β : Nat → Option Nat} {v : Value} (h : PartsAt W B ps xs β) (hn : ∀ j g,β j = some g → ¬ T g ∧ v.ownBlock ≠ some g) (ht : Turn W T W' T') : PartsAt W' B ps xs β ∧ ∀ j g,β j = some g → ¬ T' g ∧ v.ownBlock ≠ some g:=by
 refine ⟨h.move ht.size fun j g hg => ht.same g (h.ge j g hg).2 (hn j g hg).1,fun j g hg => ⟨fun q => ?_,(hn j g hg).2⟩⟩
 rcases ht.new g q with q | q
 · exact (hn j g hg).1 q
 · have:=(h.ge j g hg).2;omega
theorem RangeE.turn {w wL : World} {O : Nat → Prop} {s : Sp} : AbidesX (RangeE w wL O s):=fun _ T T' W W' ⟨v,xs,β,h,h2,h3⟩ ht => ⟨v,xs,β,h.turn ht,parts_turn h2 h3 ht⟩
theorem RangeE.put {w wL : World} {O : Nat → Prop} {s : Sp} {pre : List (LV w O)} {T : Nat → Prop} {W : World} (o : Obj) (h : RangeE w wL O s pre T W) : RangeE w wL O s pre T (W.putObj (wL.heap.size + 1) o):=by
 obtain ⟨v,xs,β,h,h2,h3⟩:=h
 exact ⟨v,xs,β,h.put o,h2.move (by simp) fun j g hg => World.putObj_heap_other (by have:=(h2.ge j g hg).1;omega),h3⟩
theorem RangeE.skip {w wL W : World} {O T : Nat → Prop} {s : Sp} {pre : List (LV w O)} {x : LV w O} (h : RangeE w wL O s pre T W) (hx : rangeL s x.1.2 = []) : RangeE w wL O s (pre ++ [x]) T W:=by
 have e : (pre ++ [x]).flatMap (fun x => rangeL s x.1.2) = pre.flatMap fun x => rangeL s x.1.2:=by simp [hx]
 unfold RangeE at h ⊢
 rw [e]
 exact h
theorem grow_parts {w wL W W3 w4 : World} {D : Nat} {O T : Nat → Prop} {v v' : Value} {xs news : List Value} {N m : Nat} {ys : List PV} {l l' : List Ent} {β β' : Nat → Option Nat}
 (h : OutAt w wL O (w.heap.size + 1) 27 33 2 v xs N ys T W3) (hbw : Below W.heap.size W W3) (hpt : PartsAt W (wL.heap.size + 2) (partsE l) xs β) (hnt : ∀ j g,β j = some g → ¬ T g ∧ v.ownBlock ≠ some g) (hpu : PartsAt W3 D (partsE l') news β')
 (hsW : wL.heap.size + 2 ≤ W.heap.size) (hD : W.heap.size ≤ D) (hg : W3.grownBy w4 v.ownBlock) (hown : w4.ownsRow (wL.heap.size + 2) 33 2 v' (N + m) (xs ++ news)) (hf : v'.ownBlock = v.ownBlock ∨ v'.ownBlock = some W3.heap.size) (hTD : ∀ k,T k → k < W.heap.size) (hvD : ∀ g,v.ownBlock = some g → g < W.heap.size) (hxl : xs.length = (partsE l).length) :
 PartsAt (w4.setCell ⟨w.heap.size + 1,0,none⟩ v') (wL.heap.size + 2) (partsE l ++ partsE l') (xs ++ news) (fun j => if j < (partsE l).length then β j else β' (j - (partsE l).length)) ∧
  ∀ j g,(if j < (partsE l).length then β j else β' (j - (partsE l).length)) = some g → ¬ T g ∧ v'.ownBlock ≠ some g:=by
 have hsz : (w4.setCell ⟨w.heap.size + 1,0,none⟩ v').heap.size = w4.heap.size:=by simp [World.setCell]
 have hbx:=h.bx1
 have ho : ∀ k,wL.heap.size + 2 ≤ k → k < W3.heap.size → v.ownBlock ≠ some k → (w4.setCell ⟨w.heap.size + 1,0,none⟩ v').heap[k]? = W3.heap[k]?:=fun k h1 h2 h3 => (Below.heap_setCell _ _ _ _ (by show k ≠ w.heap.size + 1;omega)).trans (hg.block k h2 fun q => h3 q.symm)
 have hs:=hg.size
 have hb:=hbw.size
 have h1 : PartsAt (w4.setCell ⟨w.heap.size + 1,0,none⟩ v') (wL.heap.size + 2) (partsE l) xs β := hpt.move (by omega) fun j g hg' => (ho g (hpt.ge j g hg').1 (by have:=(hpt.ge j g hg').2;omega) (hnt j g hg').2).trans (hbw.block g (hpt.ge j g hg').2)
 have hvn : ∀ g,D ≤ g → v.ownBlock ≠ some g:=fun g hg' q => by have:=hvD g q;omega
 have h2 : PartsAt (w4.setCell ⟨w.heap.size + 1,0,none⟩ v') D (partsE l') news β':=hpu.move (by omega) fun j g hg' => ho g (by have:=(hpu.ge j g hg').1;omega) (hpu.ge j g hg').2 (hvn g (hpu.ge j g hg').1)
 refine ⟨h1.append h2 hxl (by omega) (fun j g hg' => by have:=(hpt.ge j g hg').2;omega),fun j g hj => ?_⟩
 by_cases hlt : j < (partsE l).length
 · rw [if_pos hlt] at hj
   refine ⟨(hnt j g hj).1,fun q => ?_⟩
   rcases hf with hf | hf
   · exact (hnt j g hj).2 (hf ▸ q)
   · rw [hf] at q;cases q;have:=(hpt.ge j _ hj).2;omega
 · rw [if_neg hlt] at hj
   have hge:=hpu.ge _ g hj
   refine ⟨fun q => by have:=hTD g q;omega,fun q => ?_⟩
   rcases hf with hf | hf
   · exact hvn g hge.1 (hf ▸ q)
   · rw [hf] at q;cases q;omega
set_option maxHeartbeats 4000000 in
set_option maxRecDepth 100000 in
theorem range_own {d : Nat} {t : Tr d} (s : Sp) (hg : T14.Good d t) {w : World} {O : Nat → Prop} (hO : ∀ k,O k → k < w.heap.size) {tb : Nat} {u vs : Value} (hc : w.cell? ⟨tb,0,none⟩ = some u) (hu : RepV w O (enc d t) u) (hvs : RepV w O (spV s) vs) :
 Calls Try.prog 10 #[.pointer (some ⟨tb,0,none⟩),vs] w fun e w' => ∃ v xs β,e = .returned v ∧ Below w.heap.size w w' ∧ w'.ownsRow w.heap.size 33 2 v (rangeL s (flat d t)).length xs ∧ PartsAt w' w.heap.size (partsE (rangeL s (flat d t))) xs β ∧ ∀ j g,β j = some g → v.ownBlock ≠ some g:=by
 obtain ⟨a,rfl⟩:=kid_rep hu
 obtain ⟨vf,vt,rfl,hvf,hvt⟩:=spV_parts hvs
 refine (callsIn_wide (n:=3)).1 ?_
 refine callsIn_of_wp_marks Try.func10 rfl trivial ?_ rfl
 simp only [Try.ntmps10,List.size_toArray,List.length_cons,List.length_nil,Nat.reduceAdd,Nat.reduceSub,Array.replicate_succ,Array.replicate_zero,List.push_toArray,List.append_toArray,List.nil_append,List.cons_append]
 have htl:=cell_lt hc
 have hcw : ((w.alloc (.cells #[vf,vt,.bool s.e] 30)).alloc (.cells #[.slice none 0 0] 27)).cell? ⟨tb,0,none⟩ = some (.pointer (some a)):=by
  rw [cell_same (w:=w) (by rw [Below.heap_alloc _ _ _ (by simp;exact Nat.lt_succ_of_lt htl),Below.heap_alloc _ _ _ htl])];exact hc
 gi_wp2_with (refine ⟨trivial,?_⟩;gi_at_call 23;refine (leaves_call _ _ trivial rfl _ _).mono ?_;rintro e w' ⟨rfl,rfl⟩)
 have hsz : (((w.alloc (.cells #[vf,vt,.bool s.e] 30)).alloc (.cells #[.slice none 0 0] 27)).alloc (.cells #[.pointer (some a)] 55)).heap.size = w.heap.size + 3:=by simp
 have hbL : Below w.heap.size w (((w.alloc (.cells #[vf,vt,.bool s.e] 30)).alloc (.cells #[.slice none 0 0] 27)).alloc (.cells #[.pointer (some a)] 55)):=(((Below.refl _ w).alloc (Nat.le_refl _) _).alloc (by simp) _).alloc (by simp;omega) _
 have hB0 : (((w.alloc (.cells #[vf,vt,.bool s.e] 30)).alloc (.cells #[.slice none 0 0] 27)).alloc (.cells #[.pointer (some a)] 55)).heap[w.heap.size]? = some (.cells #[vf,vt,.bool s.e] 30 (0,0)):=by
  rw [Below.heap_alloc _ _ _ (by simp;omega),Below.heap_alloc _ _ _ (by simp)];exact World.alloc_heap_new w _
 have hB1 : (((w.alloc (.cells #[vf,vt,.bool s.e] 30)).alloc (.cells #[.slice none 0 0] 27)).alloc (.cells #[.pointer (some a)] 55)).heap[w.heap.size + 1]? = some (.cells #[.slice none 0 0] 27 (0,0)):=by
  rw [Below.heap_alloc _ _ _ (by simp)];have:=World.alloc_heap_new (w.alloc (.cells #[vf,vt,.bool s.e] 30)) (.cells #[.slice none 0 0] 27);rwa [World.size_alloc] at this
 have hB2 : (((w.alloc (.cells #[vf,vt,.bool s.e] 30)).alloc (.cells #[.slice none 0 0] 27)).alloc (.cells #[.pointer (some a)] 55)).cell? ⟨w.heap.size + 2,0,none⟩ = some (.pointer (some a)):=by
  have:=World.alloc_heap_new ((w.alloc (.cells #[vf,vt,.bool s.e] 30)).alloc (.cells #[.slice none 0 0] 27)) (.cells #[.pointer (some a)] 55);rw [World.size_alloc,World.size_alloc] at this;simp only [World.cell?,this];rfl
 generalize (((w.alloc (.cells #[vf,vt,.bool s.e] 30)).alloc (.cells #[.slice none 0 0] 27)).alloc (.cells #[.pointer (some a)] 55)) = wL at hsz hbL hB0 hB1 hB2 ⊢
 obtain ⟨s0,hs0⟩ : ∃ s0 : SP w O,s0 = ⟨a,d,t,hu,hg.okr,hg.sorted,hg.short⟩:=⟨_,rfl⟩
 have hnod : nodesOf s0.d s0.t ≤ 10000000:=by rw [hs0];exact Nat.le_trans (nodes_okr d t hg.okr) (Nat.le_trans (Nat.pow_le_pow_right (by decide) hg.deep) (by decide))
 refine wpIn_rangeFunc_X (α := LV w O) rfl (by decide) (gf:=39) (lb := #[.pointer (some ⟨w.heap.size + 1 + 1,0,none⟩)]) rfl trivial (enters_of Try.func39 (by kernel_rfl) rfl)
  (leaves_seq Fence.wide 2 trivial rfl (by decide) (w.heap.size + 2) w wL O s0 hnod hbL (by rw [hB2,hs0];rfl)) kpl_trans (fun T W o h => kpl_put o (by omega) h) (Below.refl _ _) (fun _ => rfl)
  (RangeE w wL O s) RangeE.turn (fun _ T W o h => h.put o) ?start
  (fun x => { tmps := #[.pointer (some ⟨tb,0,none⟩),.agg #[vf,vt,.bool s.e],undef,.pointer (some ⟨w.heap.size,0,none⟩),.slice none 0 0,.pointer (some ⟨w.heap.size + 1,0,none⟩),x.1.1,undef,undef,undef,.pointer (some ⟨tb,0,none⟩),.pointer (some ⟨tb,0,none⟩),.pointer (some ⟨tb,0,none⟩),.pointer (some a),.func (.func 39) #[] #[.pointer (some ⟨w.heap.size + 1 + 1,0,none⟩)],x.1.1,undef,undef,undef,undef,undef,undef,undef,undef,undef,undef,undef,undef,undef,undef,undef,undef,undef,undef,undef,undef,undef,undef,undef,undef,undef,undef,undef,undef,undef,undef,undef,undef,undef,undef,undef],defers:=[] }) ?assign ?body ?done
 case start =>
  refine ⟨.slice none 0 0,[],fun _ => none,⟨hO,by omega,by omega,hbL,Nat.le_refl _,fun k h => h.elim,hbL.os,hbL.tape,hbL.output,fun k _ _ => rfl,hB1,World.ownsRow_nil _ _ _ _,fun g h => by simp [Value.ownBlock] at h,by simp,fun q y h => by simp at h⟩,by simpa [partsE] using PartsAt.nil _ _,fun j g h => (by cases h)⟩
 case assign =>
  intro l x W K hK
  gi_wp2
  exact hK
 case body =>
  rintro l pre x T W hI hlen hsW hT
  have hI0:=hI
  obtain ⟨v,xs,β,hi,hpt0,hnt0⟩:=hI
  obtain ⟨⟨xv,es⟩,hxr,hxs,hxl,hxsh⟩:=x
  simp only at hxr hxs hxl hxsh ⊢
  obtain ⟨pa,rfl⟩:=kid_rep hxr
  obtain ⟨⟨ve,vb,p0,p1,p2,re,rb⟩⟩:=page_at (c:=List.length (α := Ent) es) hxr
  have hbW:=hi.below
  have hf0 : W.cell? ⟨w.heap.size,0,none⟩ = some vf:=by simp only [World.cell?,(hi.same _ (by omega) (by omega)).trans hB0];rfl
  obtain ⟨A,c,rfl,hce⟩:=sl_inv re
  rw [List.length_map] at hce p0 re
  gi_wp2
  refine ⟨trivial,(CallsIn.inRound l (callsIn_wide.2 (place_calls s.f es [] _ hxs (by omega) (or_lt hO hbW.size) (rep_in hxr hbW) (rep_in hvf hbW)))).mono ?_⟩
  rintro e W1 ⟨rfl,hb1⟩
  have hbW1:=hbW.trans (hb1.mono hbW.size)
  have hi1:=hi.turn (turn_below (T:=T) hb1)
  have g2 : W1.cell? ⟨w.heap.size,2,none⟩ = some (.bool s.e):=by simp only [World.cell?,(hi1.same _ (by omega) (by omega)).trans hB0];rfl
  have g1 : W1.cell? ⟨w.heap.size,1,none⟩ = some vt:=by simp only [World.cell?,(hi1.same _ (by omega) (by omega)).trans hB0];rfl
  have p0' : w.cell? pa = some (.slice A es.length c):=p0
  have hp0 : W1.cell? pa = some (.slice A es.length c):=by rw [cell_same (hbW1.block _ (cell_lt p0'))];exact p0'
  obtain ⟨fr,hfr⟩ : ∃ fr,Keep (fr = ltc s.f es):=⟨_,⟨rfl⟩⟩
  rw [← hfr.out]
  dsimp only
  cases hse : s.e with
  | false =>
    rw [hse] at g2
    have htl : es.length ≤ es.length:=Nat.le_refl _
    have hsel : rangeL s es = (es.take es.length).drop fr:=by rw [rangeL_slice s hxs,hse,hfr.out];rfl
    gi_wp2
    · skip
      have hft : fr < es.length:=by assumption
      have hfl : fr ≤ es.length:=Nat.le_of_lt hft
      have hb2:=hb1
      have hp2:=hp0
      have hbW2:=hbW1
      generalize W1 = W2 at hb2 hp2 hbW2 ⊢
      refine wpIn_region_inv mixed (by kernel_rfl) (by simp) (fun ls a' w' => ∃ u48 u49,a'.tmps.size = 51 ∧ SF [(5,none,.pointer (some ⟨w.heap.size + 1,0,none⟩)),(6,none,.pointer (some pa)),(7,none,.int .i64 fr),(9,none,.int .i64 es.length),(40,some 0,v),(41,some 1,.pointer (some pa)),(42,some 2,.pointer (some pa)),
       (43,some 3,.pointer (some pa)),(44,some 4,.slice A es.length c),(45,some 5,.int .i64 fr),(46,some 6,.int .i64 es.length),(47,some 7,.slice (if c = fr then A else A.map (·.add (fr * 2))) (es.length - fr) (c - fr)),(48,some 8,u48),(49,some 9,u49)] ls a' ∧
       (ls 8 = true → ls 4 = true ∧ ls 7 = true) ∧ (ls 7 = true → ls 4 = true) ∧ (ls 9 = true → ls 0 = true) ∧
       WF3 (w' = W2.drew) (Below W2.drew.heap.size W2.drew w' ∧ ∃ xs' β',w'.ownsRow W2.drew.heap.size 33 2 u48 (rangeL s es).length xs' ∧ PartsAt w' W2.drew.heap.size (partsE (rangeL s es)) xs' β')
        (∃ W3 news,Below W2.drew.heap.size W2.drew W3 ∧ W3.grownBy w' v.ownBlock ∧ w'.ownsRow (wL.heap.size + 2) 33 2 u49 ((pre.flatMap fun x => rangeL s x.1.2).length + (rangeL s es).length) (xs ++ news) ∧ (u49.ownBlock = v.ownBlock ∨ u49.ownBlock = some W3.heap.size) ∧ ∃ β',PartsAt W3 W2.drew.heap.size (partsE (rangeL s es)) news β')
        (KeepsOthers W w' ∧ KpL w.heap.size T W w' ∧ RangeE w wL O s (pre ++ [⟨(.pointer (some pa),es),hxr,hxs,hxl,hxsh⟩]) T w') (ls 8) (ls 9) (ls 10)) ?h0 ?step ?fin
      case h0 =>
       refine ⟨Go.undef,Go.undef,rfl,SF.start fun e he hn => ?_,fun h => Bool.noConfusion h,fun h => Bool.noConfusion h,fun h => Bool.noConfusion h,WF3.p0 rfl⟩
       simp only [List.mem_cons,List.not_mem_nil,or_false] at he
       rcases he with rfl | rfl | rfl | rfl | rfl | rfl | rfl | rfl | rfl | rfl | rfl | rfl | rfl | rfl <;> first | rfl | cases hn
      case fin =>
       rintro ls a' w' ⟨u48,u49,_,_,_,_,_,hw⟩ hall
       rw [hall 8 (by decide),hall 9 (by decide),hall 10 (by decide)] at hw
       cases hw with
       | p3 h => exact h
      case step =>
       rintro ls a' w' K i o ⟨u48,u49,hsz',hS,h8,h7,h9,hw⟩ ho hls hall hK
       have f5:=hS.base (k:=5) (v := .pointer (some ⟨w.heap.size + 1,0,none⟩)) (by simp)
       have f6:=hS.base (k:=6) (v := .pointer (some pa)) (by simp)
       have f7:=hS.base (k:=7) (v := .int .i64 fr) (by simp)
       have f9:=hS.base (k:=9) (v := .int .i64 es.length) (by simp)
       have h9f : ls 0 = false → ls 9 = false:=fun h => by
        cases hh : ls 9 with
        | false => rfl
        | true => rw [h9 hh] at h;cases h
       have h8f : ls 4 = false → ls 8 = false:=fun h => by
        cases hh : ls 8 with
        | false => rfl
        | true => rw [(h8 hh).1] at h;cases h
       match i,ho with
       | 0,ho =>
         obtain rfl:=Option.some.inj ho
         have hw0:=hw
         rw [h9f hls] at hw0
         have hbw : Below W.heap.size W w':=by
          rcases hw0.low.1 with rfl | ⟨h,_⟩
          · exact hb2.drew
          · exact hb2.drew.trans (h.mono hb2.size)
         have hbx : w'.cell? ⟨w.heap.size + 1,0,none⟩ = some v:=by simp only [World.cell?,(hi.turn (turn_below (T:=T) hbw)).box];rfl
         go_simp
         exact hK _ _ ⟨u48,u49,by simpa using hsz',hS.put (d:=40) (by omega) (by simp),h8,h7,fun _ => rfl,hw⟩
       | 1,ho =>
         obtain rfl:=Option.some.inj ho
         go_simp
         exact hK _ _ ⟨u48,u49,by simpa using hsz',hS.put (d:=41) (by omega) (by simp),h8,h7,h9,hw⟩
       | 2,ho =>
         obtain rfl:=Option.some.inj ho
         have f41:=hS.get (k:=41) (j:=1) (v := .pointer (some pa)) (by simp) (hall ⟨1,.data⟩ (by simp) rfl)
         go_simp
         exact hK _ _ ⟨u48,u49,by simpa using hsz',hS.put (d:=42) (by omega) (by simp),h8,h7,h9,hw⟩
       | 3,ho =>
         obtain rfl:=Option.some.inj ho
         have f42:=hS.get (k:=42) (j:=2) (v := .pointer (some pa)) (by simp) (hall ⟨1 + 1,.data⟩ (by simp) rfl)
         go_simp
         exact hK _ _ ⟨u48,u49,by simpa using hsz',hS.put (d:=43) (by omega) (by simp),h8,h7,h9,hw⟩
       | 4,ho =>
         obtain rfl:=Option.some.inj ho
         have f43:=hS.get (k:=43) (j:=3) (v := .pointer (some pa)) (by simp) (hall ⟨3,.data⟩ (by simp) rfl)
         have hw0:=hw
         rw [h8f hls] at hw0
         obtain ⟨rfl,e9,e10⟩:=hw0.start
         have hp2d : W2.drew.cell? pa = some (.slice A es.length c):=hp2
         go_simp
         exact hK _ _ ⟨u48,u49,by simpa using hsz',hS.put (d:=44) (by omega) (by simp),fun h => ⟨rfl,(h8 h).2⟩,fun _ => rfl,h9,hw⟩
       | 5,ho =>
         obtain rfl:=Option.some.inj ho
         go_simp
         exact hK _ _ ⟨u48,u49,by simpa using hsz',hS.put (d:=45) (by omega) (by simp),h8,h7,h9,hw⟩
       | 6,ho =>
         obtain rfl:=Option.some.inj ho
         go_simp
         exact hK _ _ ⟨u48,u49,by simpa using hsz',hS.put (d:=46) (by omega) (by simp),h8,h7,h9,hw⟩
       | 7,ho =>
         obtain rfl:=Option.some.inj ho
         have f44:=hS.get (k:=44) (j:=4) (v := .slice A es.length c) (by simp) (hall ⟨4,.data⟩ (by simp) rfl)
         have f45:=hS.get (k:=45) (j:=5) (v := .int .i64 fr) (by simp) (hall ⟨5,.data⟩ (by simp) rfl)
         have f46:=hS.get (k:=46) (j:=6) (v := .int .i64 es.length) (by simp) (hall ⟨6,.data⟩ (by simp) rfl)
         go_simp
         exact hK _ _ ⟨u48,u49,by simpa using hsz',hS.put (d:=47) (by omega) (by simp),fun h => ⟨(h8 h).1,rfl⟩,fun _ => hall ⟨4,.data⟩ (by simp) rfl,h9,hw⟩
       | 8,ho =>
         obtain rfl:=Option.some.inj ho
         have f47:=hS.get (k:=47) (j:=7) (v := .slice (if c = fr then A else A.map (·.add (fr * 2))) (es.length - fr) (c - fr)) (by simp) (hall ⟨7,.data⟩ (by simp) rfl)
         have hw0:=hw
         rw [hls] at hw0
         obtain ⟨rfl,e9,e10⟩:=hw0.start
         go_simp
         have hcut : RepV W2.drew (OR O w.heap.size W2.drew.heap.size) (.sl (some 2) ((rangeL s es).map entV)) (.slice (if c = fr then A else A.map (·.add (fr * 2))) (es.length - fr) (c - fr)):=by
          have:=(rep_in re (W:=W2.drew) hbW2.drew).cut (l:=fr) (e:=es.length) (m:=c) hfl (by rw [List.length_map];exact htl) (Nat.le_trans htl hce) (Nat.le_refl _)
          rw [← List.map_take,← List.map_drop,← hsel] at this
          exact this
         refine ⟨trivial,(CallsIn.inRound l (callsIn_wide.2 (copied_own (rangeL s es) (by have:=rangeL_le s es;omega) (fun e he => hxsh e (List.mem_filter.1 he).1) (or_lt hO hbW2.drew.size) hcut))).mono ?_⟩
         rintro e W3 ⟨u,xs',β',rfl,hb3,hru,hpu⟩
         exact hK _ _ ⟨u,u49,by simpa using hsz',(hS.swap (by simp [hls])).put (d:=48) (by omega) (by simp),fun _ => ⟨h7 (hall ⟨7,.data⟩ (by simp) rfl),hall ⟨7,.data⟩ (by simp) rfl⟩,h7,h9,by
          show WF3 _ _ _ _ true (ls 9) (ls 10)
          rw [e9,e10]
          exact .p1 ⟨hb3,xs',β',hru,hpu⟩⟩
       | 9,ho =>
         obtain rfl:=Option.some.inj ho
         have f40:=hS.get (k:=40) (j:=0) (v:=v) (by simp) (hall ⟨0,.data⟩ (by simp) rfl)
         have f48:=hS.get (k:=48) (j:=8) (v:=u48) (by simp) (hall ⟨8,.data⟩ (by simp) rfl)
         have hw0:=hw
         have e8:=hall ⟨8,.data⟩ (by simp) rfl
         simp only at e8
         rw [hls,e8] at hw0
         obtain ⟨⟨hb3,news,β',hru,hpu⟩,e10⟩:=hw0.mid
         have hbw : Below W.heap.size W w':=hb2.drew.trans (hb3.mono hb2.size)
         have hi3:=hi.turn (turn_below (T:=T) hbw)
         obtain ⟨i0,hi0,hz0,hz1,hz2⟩:=info_parts wi33
         have hne : (rangeL s es).map entV ≠ []:=by
          rw [hsel]
          intro h
          have:=congrArg List.length h
          simp at this
          omega
         obtain ⟨hnl,hvv⟩:=hru
         have hm00 : 0 < (rangeL s es).length:=List.length_pos_iff.2 fun h => hne (by rw [h];rfl)
         obtain ⟨ad,cp,rfl,hnc⟩ : ∃ (ad : Addr) (cp : Nat),u48 = .slice (some ad) (rangeL s es).length cp ∧ ∀ j x,news[j]? = some x → w'.cell? (ad.add j) = some x:=by
          have hh : w'.ownsRow W2.drew.heap.size 33 2 u48 (rangeL s es).length news:=⟨hnl,hvv⟩
          rcases hvv with ⟨_,h0⟩ | ⟨g,cap,cur,hv',_⟩
          · omega
          · subst hv';exact ⟨_,_,rfl,hh.cells rfl⟩
         have hn1:=parts_one hpu (by rw [hnl,partsE_len];omega)
         have hm0 : 0 < (rangeL s es).length:=List.length_pos_iff.2 fun h => hne (by rw [h];rfl)
         have hpl:=ranged_le s pre
         have hle4:=rangeL_le s es
         have hlv:=leaves_le s0.d s0.t
         refine step_append_fresh w' (.tmp 40) (.tmp 48) 27 rfl (wL.heap.size + 2) 33 i0 (.agg #[.slice none 0 0,.slice none 0 0]) 2 48 w27 hi0 hz0 hz1 hz2 rfl (by decide) v _ xs f40 hi3.row ad (rangeL s es).length cp news f48 hnl hnc hn1 hm0 (by unfold maxLen;omega) (by omega) (Nat.le_trans hsW hbw.size) ?_
         intro v' w4 hown' hgrow hfresh _
         exact hK _ _ ⟨.slice (some ad) (rangeL s es).length cp,v',by show (a'.tmps.setIfInBounds 49 v').size = 51;simpa using hsz',(hS.swap (by simp [hls])).put (d:=49) (by omega) (by simp),h8,h7,fun _ => hall ⟨0,.data⟩ (by simp) rfl,by
          show WF3 _ _ _ _ (ls 8) true (ls 10)
          rw [e8,e10]
          exact .p2 ⟨w',news,hb3,hgrow,hown',hfresh,β',hpu⟩⟩
       | 10,ho =>
         obtain rfl:=Option.some.inj ho
         have f49:=hS.get (k:=49) (j:=9) (v:=u49) (by simp) (hall ⟨9,.data⟩ (by simp) rfl)
         have e9:=hall ⟨9,.data⟩ (by simp) rfl
         simp only at e9
         rw [hls,e9] at hw
         obtain ⟨⟨W3,news,hb3,hgrow,hown',hfresh,β',hpu⟩,e8⟩:=hw.end_
         have hbw : Below W.heap.size W W3:=hb2.drew.trans (hb3.mono hb2.size)
         have hi3:=hi.turn (turn_below (T:=T) hbw)
         have hL3 : wL.heap.size + 2 ≤ W3.heap.size:=Nat.le_trans hsW hbw.size
         have hbxh : w'.heap[w.heap.size + 1]? = some (.cells #[v] 27 (0,0)):=by
          rw [hgrow.block _ (by omega) (fun q => by have:=(hi3.row.lt _ q.symm).1;omega)];exact hi3.box
         have hbx : w'.cell? ⟨w.heap.size + 1,0,none⟩ = some v:=by simp only [World.cell?,hbxh];rfl
         have hbf : w'.frozen? ⟨w.heap.size + 1,0,none⟩ = false:=by simp only [World.frozen?,hbxh];rfl
         obtain ⟨A9,n9,c9,rfl⟩ : ∃ A9 n9 c9,u49 = .slice A9 n9 c9:=by rcases hown'.2 with ⟨h,_⟩ | ⟨_,_,_,h,_⟩ <;> exact ⟨_,_,_,h⟩
         have hsb:=hb2.drew.size
         have hnr : CellsRep W3 (OX O w.heap.size wL.heap.size T v) (((rangeL s es).map entV).flatMap PV.cells) news:=parts_cells hpu fun k hk q => hi.or_ox hsW hb2.drew k (fun q' => by rcases q' with q' | q';have:=hO k q';have:=hi.below.size;omega;omega) q
         obtain ⟨q1,q2,q3⟩:=hi3.grow (m:=(rangeL s es).length) hL3 hgrow hown' hfresh (by rw [flat_len (ents_elems _).len,List.length_map];rfl) hnr
         go_simp
         exact hK _ _ ⟨u48,.slice A9 n9 c9,hsz',hS.idle (by simp),h8,h7,h9,by
          show WF3 _ _ _ _ (ls 8) (ls 9) true
          rw [e8,e9]
          refine .p3 ⟨(round_below hbw).trans q2,kpl_trans (kpl_below hi hbw) q3,?_⟩
          have hpq:=grow_parts hi3 hbw hpt0 hnt0 hpu hsW hsb hgrow hown' hfresh (fun k hk => (hT k hk).2) (fun g hg' => (hi.row.lt g hg').2) (by rw [hi.row.1,partsE_len];omega)
          have e : (pre ++ [(⟨(.pointer (some pa),es),hxr,hxs,hxl,hxsh⟩ : LV w O)]).flatMap (fun x => rangeL s x.1.2) = (pre.flatMap fun x => rangeL s x.1.2) ++ rangeL s es:=by simp
          unfold RangeE
          rw [e,List.length_append,List.map_append,List.flatMap_append,partsE_append]
          exact ⟨_,_,_,q1,hpq⟩⟩
       | k + 11,ho => simp at ho
    · have hno : rangeL s es = []:=by rw [hsel];exact List.drop_eq_nil_of_le (by rw [List.length_take];omega)
      exact ⟨round_below hb1,kpl_below hi hb1,RangeE.skip (RangeE.turn _ _ _ _ _ hI0 (turn_below hb1)) hno⟩
  | true =>
    rw [hse] at g2
    gi_wp2
    refine ⟨trivial,(CallsIn.inRound l (callsIn_wide.2 (place_calls s.t es [] _ hxs (by omega) (or_lt hO hbW1.size) (rep_in hxr hbW1) (rep_in hvt hbW1)))).mono ?_⟩
    rintro e Wt ⟨rfl,hbt1⟩
    have hbt : Below W.heap.size W Wt:=hb1.trans (hbt1.mono hb1.size)
    have hbWt:=hbW1.trans (hbt1.mono hbW1.size)
    have hpt : Wt.cell? pa = some (.slice A es.length c):=by rw [cell_same (hbWt.block _ (cell_lt p0'))];exact p0'
    obtain ⟨to,hto⟩ : ∃ to,Keep (to = ltc s.t es):=⟨_,⟨rfl⟩⟩
    have htl : to ≤ es.length:=by rw [hto.out];exact ltc_le _ _
    have htc : to ≤ c:=Nat.le_trans htl hce
    have hsel : rangeL s es = (es.take to).drop fr:=by rw [rangeL_slice s hxs,hse,hfr.out,hto.out];rfl
    rw [← hto.out]
    dsimp only
    gi_wp2
    · skip
      have hft : fr < to:=by assumption
      have hfl : fr ≤ to:=Nat.le_of_lt hft
      have hb2:=hbt
      have hp2:=hpt
      have hbW2:=hbWt
      generalize Wt = W2 at hb2 hp2 hbW2 ⊢
      refine wpIn_region_inv mixed (by kernel_rfl) (by simp) (fun ls a' w' => ∃ u48 u49,a'.tmps.size = 51 ∧ SF [(5,none,.pointer (some ⟨w.heap.size + 1,0,none⟩)),(6,none,.pointer (some pa)),(7,none,.int .i64 fr),(9,none,.int .i64 to),(40,some 0,v),(41,some 1,.pointer (some pa)),(42,some 2,.pointer (some pa)),
       (43,some 3,.pointer (some pa)),(44,some 4,.slice A es.length c),(45,some 5,.int .i64 fr),(46,some 6,.int .i64 to),(47,some 7,.slice (if c = fr then A else A.map (·.add (fr * 2))) (to - fr) (c - fr)),(48,some 8,u48),(49,some 9,u49)] ls a' ∧
       (ls 8 = true → ls 4 = true ∧ ls 7 = true) ∧ (ls 7 = true → ls 4 = true) ∧ (ls 9 = true → ls 0 = true) ∧
       WF3 (w' = W2.drew) (Below W2.drew.heap.size W2.drew w' ∧ ∃ xs' β',w'.ownsRow W2.drew.heap.size 33 2 u48 (rangeL s es).length xs' ∧ PartsAt w' W2.drew.heap.size (partsE (rangeL s es)) xs' β')
        (∃ W3 news,Below W2.drew.heap.size W2.drew W3 ∧ W3.grownBy w' v.ownBlock ∧ w'.ownsRow (wL.heap.size + 2) 33 2 u49 ((pre.flatMap fun x => rangeL s x.1.2).length + (rangeL s es).length) (xs ++ news) ∧ (u49.ownBlock = v.ownBlock ∨ u49.ownBlock = some W3.heap.size) ∧ ∃ β',PartsAt W3 W2.drew.heap.size (partsE (rangeL s es)) news β')
        (KeepsOthers W w' ∧ KpL w.heap.size T W w' ∧ RangeE w wL O s (pre ++ [⟨(.pointer (some pa),es),hxr,hxs,hxl,hxsh⟩]) T w') (ls 8) (ls 9) (ls 10)) ?h0 ?step ?fin
      case h0 =>
       refine ⟨Go.undef,Go.undef,rfl,SF.start fun e he hn => ?_,fun h => Bool.noConfusion h,fun h => Bool.noConfusion h,fun h => Bool.noConfusion h,WF3.p0 rfl⟩
       simp only [List.mem_cons,List.not_mem_nil,or_false] at he
       rcases he with rfl | rfl | rfl | rfl | rfl | rfl | rfl | rfl | rfl | rfl | rfl | rfl | rfl | rfl <;> first | rfl | cases hn
      case fin =>
       rintro ls a' w' ⟨u48,u49,_,_,_,_,_,hw⟩ hall
       rw [hall 8 (by decide),hall 9 (by decide),hall 10 (by decide)] at hw
       cases hw with
       | p3 h => exact h
      case step =>
       rintro ls a' w' K i o ⟨u48,u49,hsz',hS,h8,h7,h9,hw⟩ ho hls hall hK
       have f5:=hS.base (k:=5) (v := .pointer (some ⟨w.heap.size + 1,0,none⟩)) (by simp)
       have f6:=hS.base (k:=6) (v := .pointer (some pa)) (by simp)
       have f7:=hS.base (k:=7) (v := .int .i64 fr) (by simp)
       have f9:=hS.base (k:=9) (v := .int .i64 to) (by simp)
       have h9f : ls 0 = false → ls 9 = false:=fun h => by
        cases hh : ls 9 with
        | false => rfl
        | true => rw [h9 hh] at h;cases h
       have h8f : ls 4 = false → ls 8 = false:=fun h => by
        cases hh : ls 8 with
        | false => rfl
        | true => rw [(h8 hh).1] at h;cases h
       match i,ho with
       | 0,ho =>
         obtain rfl:=Option.some.inj ho
         have hw0:=hw
         rw [h9f hls] at hw0
         have hbw : Below W.heap.size W w':=by
          rcases hw0.low.1 with rfl | ⟨h,_⟩
          · exact hb2.drew
          · exact hb2.drew.trans (h.mono hb2.size)
         have hbx : w'.cell? ⟨w.heap.size + 1,0,none⟩ = some v:=by simp only [World.cell?,(hi.turn (turn_below (T:=T) hbw)).box];rfl
         go_simp
         exact hK _ _ ⟨u48,u49,by simpa using hsz',hS.put (d:=40) (by omega) (by simp),h8,h7,fun _ => rfl,hw⟩
       | 1,ho =>
         obtain rfl:=Option.some.inj ho
         go_simp
         exact hK _ _ ⟨u48,u49,by simpa using hsz',hS.put (d:=41) (by omega) (by simp),h8,h7,h9,hw⟩
       | 2,ho =>
         obtain rfl:=Option.some.inj ho
         have f41:=hS.get (k:=41) (j:=1) (v := .pointer (some pa)) (by simp) (hall ⟨1,.data⟩ (by simp) rfl)
         go_simp
         exact hK _ _ ⟨u48,u49,by simpa using hsz',hS.put (d:=42) (by omega) (by simp),h8,h7,h9,hw⟩
       | 3,ho =>
         obtain rfl:=Option.some.inj ho
         have f42:=hS.get (k:=42) (j:=2) (v := .pointer (some pa)) (by simp) (hall ⟨1 + 1,.data⟩ (by simp) rfl)
         go_simp
         exact hK _ _ ⟨u48,u49,by simpa using hsz',hS.put (d:=43) (by omega) (by simp),h8,h7,h9,hw⟩
       | 4,ho =>
         obtain rfl:=Option.some.inj ho
         have f43:=hS.get (k:=43) (j:=3) (v := .pointer (some pa)) (by simp) (hall ⟨3,.data⟩ (by simp) rfl)
         have hw0:=hw
         rw [h8f hls] at hw0
         obtain ⟨rfl,e9,e10⟩:=hw0.start
         have hp2d : W2.drew.cell? pa = some (.slice A es.length c):=hp2
         go_simp
         exact hK _ _ ⟨u48,u49,by simpa using hsz',hS.put (d:=44) (by omega) (by simp),fun h => ⟨rfl,(h8 h).2⟩,fun _ => rfl,h9,hw⟩
       | 5,ho =>
         obtain rfl:=Option.some.inj ho
         go_simp
         exact hK _ _ ⟨u48,u49,by simpa using hsz',hS.put (d:=45) (by omega) (by simp),h8,h7,h9,hw⟩
       | 6,ho =>
         obtain rfl:=Option.some.inj ho
         go_simp
         exact hK _ _ ⟨u48,u49,by simpa using hsz',hS.put (d:=46) (by omega) (by simp),h8,h7,h9,hw⟩
       | 7,ho =>
         obtain rfl:=Option.some.inj ho
         have f44:=hS.get (k:=44) (j:=4) (v := .slice A es.length c) (by simp) (hall ⟨4,.data⟩ (by simp) rfl)
         have f45:=hS.get (k:=45) (j:=5) (v := .int .i64 fr) (by simp) (hall ⟨5,.data⟩ (by simp) rfl)
         have f46:=hS.get (k:=46) (j:=6) (v := .int .i64 to) (by simp) (hall ⟨6,.data⟩ (by simp) rfl)
         go_simp
         exact hK _ _ ⟨u48,u49,by simpa using hsz',hS.put (d:=47) (by omega) (by simp),fun h => ⟨(h8 h).1,rfl⟩,fun _ => hall ⟨4,.data⟩ (by simp) rfl,h9,hw⟩
       | 8,ho =>
         obtain rfl:=Option.some.inj ho
         have f47:=hS.get (k:=47) (j:=7) (v := .slice (if c = fr then A else A.map (·.add (fr * 2))) (to - fr) (c - fr)) (by simp) (hall ⟨7,.data⟩ (by simp) rfl)
         have hw0:=hw
         rw [hls] at hw0
         obtain ⟨rfl,e9,e10⟩:=hw0.start
         go_simp
         have hcut : RepV W2.drew (OR O w.heap.size W2.drew.heap.size) (.sl (some 2) ((rangeL s es).map entV)) (.slice (if c = fr then A else A.map (·.add (fr * 2))) (to - fr) (c - fr)):=by
          have:=(rep_in re (W:=W2.drew) hbW2.drew).cut (l:=fr) (e:=to) (m:=c) hfl (by rw [List.length_map];exact htl) (Nat.le_trans htl hce) (Nat.le_refl _)
          rw [← List.map_take,← List.map_drop,← hsel] at this
          exact this
         refine ⟨trivial,(CallsIn.inRound l (callsIn_wide.2 (copied_own (rangeL s es) (by have:=rangeL_le s es;omega) (fun e he => hxsh e (List.mem_filter.1 he).1) (or_lt hO hbW2.drew.size) hcut))).mono ?_⟩
         rintro e W3 ⟨u,xs',β',rfl,hb3,hru,hpu⟩
         exact hK _ _ ⟨u,u49,by simpa using hsz',(hS.swap (by simp [hls])).put (d:=48) (by omega) (by simp),fun _ => ⟨h7 (hall ⟨7,.data⟩ (by simp) rfl),hall ⟨7,.data⟩ (by simp) rfl⟩,h7,h9,by
          show WF3 _ _ _ _ true (ls 9) (ls 10)
          rw [e9,e10]
          exact .p1 ⟨hb3,xs',β',hru,hpu⟩⟩
       | 9,ho =>
         obtain rfl:=Option.some.inj ho
         have f40:=hS.get (k:=40) (j:=0) (v:=v) (by simp) (hall ⟨0,.data⟩ (by simp) rfl)
         have f48:=hS.get (k:=48) (j:=8) (v:=u48) (by simp) (hall ⟨8,.data⟩ (by simp) rfl)
         have hw0:=hw
         have e8:=hall ⟨8,.data⟩ (by simp) rfl
         simp only at e8
         rw [hls,e8] at hw0
         obtain ⟨⟨hb3,news,β',hru,hpu⟩,e10⟩:=hw0.mid
         have hbw : Below W.heap.size W w':=hb2.drew.trans (hb3.mono hb2.size)
         have hi3:=hi.turn (turn_below (T:=T) hbw)
         obtain ⟨i0,hi0,hz0,hz1,hz2⟩:=info_parts wi33
         have hne : (rangeL s es).map entV ≠ []:=by
          rw [hsel]
          intro h
          have:=congrArg List.length h
          simp at this
          omega
         obtain ⟨hnl,hvv⟩:=hru
         have hm00 : 0 < (rangeL s es).length:=List.length_pos_iff.2 fun h => hne (by rw [h];rfl)
         obtain ⟨ad,cp,rfl,hnc⟩ : ∃ (ad : Addr) (cp : Nat),u48 = .slice (some ad) (rangeL s es).length cp ∧ ∀ j x,news[j]? = some x → w'.cell? (ad.add j) = some x:=by
          have hh : w'.ownsRow W2.drew.heap.size 33 2 u48 (rangeL s es).length news:=⟨hnl,hvv⟩
          rcases hvv with ⟨_,h0⟩ | ⟨g,cap,cur,hv',_⟩
          · omega
          · subst hv';exact ⟨_,_,rfl,hh.cells rfl⟩
         have hn1:=parts_one hpu (by rw [hnl,partsE_len];omega)
         have hm0 : 0 < (rangeL s es).length:=List.length_pos_iff.2 fun h => hne (by rw [h];rfl)
         have hpl:=ranged_le s pre
         have hle4:=rangeL_le s es
         have hlv:=leaves_le s0.d s0.t
         refine step_append_fresh w' (.tmp 40) (.tmp 48) 27 rfl (wL.heap.size + 2) 33 i0 (.agg #[.slice none 0 0,.slice none 0 0]) 2 48 w27 hi0 hz0 hz1 hz2 rfl (by decide) v _ xs f40 hi3.row ad (rangeL s es).length cp news f48 hnl hnc hn1 hm0 (by unfold maxLen;omega) (by omega) (Nat.le_trans hsW hbw.size) ?_
         intro v' w4 hown' hgrow hfresh _
         exact hK _ _ ⟨.slice (some ad) (rangeL s es).length cp,v',by show (a'.tmps.setIfInBounds 49 v').size = 51;simpa using hsz',(hS.swap (by simp [hls])).put (d:=49) (by omega) (by simp),h8,h7,fun _ => hall ⟨0,.data⟩ (by simp) rfl,by
          show WF3 _ _ _ _ (ls 8) true (ls 10)
          rw [e8,e10]
          exact .p2 ⟨w',news,hb3,hgrow,hown',hfresh,β',hpu⟩⟩
       | 10,ho =>
         obtain rfl:=Option.some.inj ho
         have f49:=hS.get (k:=49) (j:=9) (v:=u49) (by simp) (hall ⟨9,.data⟩ (by simp) rfl)
         have e9:=hall ⟨9,.data⟩ (by simp) rfl
         simp only at e9
         rw [hls,e9] at hw
         obtain ⟨⟨W3,news,hb3,hgrow,hown',hfresh,β',hpu⟩,e8⟩:=hw.end_
         have hbw : Below W.heap.size W W3:=hb2.drew.trans (hb3.mono hb2.size)
         have hi3:=hi.turn (turn_below (T:=T) hbw)
         have hL3 : wL.heap.size + 2 ≤ W3.heap.size:=Nat.le_trans hsW hbw.size
         have hbxh : w'.heap[w.heap.size + 1]? = some (.cells #[v] 27 (0,0)):=by
          rw [hgrow.block _ (by omega) (fun q => by have:=(hi3.row.lt _ q.symm).1;omega)];exact hi3.box
         have hbx : w'.cell? ⟨w.heap.size + 1,0,none⟩ = some v:=by simp only [World.cell?,hbxh];rfl
         have hbf : w'.frozen? ⟨w.heap.size + 1,0,none⟩ = false:=by simp only [World.frozen?,hbxh];rfl
         obtain ⟨A9,n9,c9,rfl⟩ : ∃ A9 n9 c9,u49 = .slice A9 n9 c9:=by rcases hown'.2 with ⟨h,_⟩ | ⟨_,_,_,h,_⟩ <;> exact ⟨_,_,_,h⟩
         have hsb:=hb2.drew.size
         have hnr : CellsRep W3 (OX O w.heap.size wL.heap.size T v) (((rangeL s es).map entV).flatMap PV.cells) news:=parts_cells hpu fun k hk q => hi.or_ox hsW hb2.drew k (fun q' => by rcases q' with q' | q';have:=hO k q';have:=hi.below.size;omega;omega) q
         obtain ⟨q1,q2,q3⟩:=hi3.grow (m:=(rangeL s es).length) hL3 hgrow hown' hfresh (by rw [flat_len (ents_elems _).len,List.length_map];rfl) hnr
         go_simp
         exact hK _ _ ⟨u48,.slice A9 n9 c9,hsz',hS.idle (by simp),h8,h7,h9,by
          show WF3 _ _ _ _ (ls 8) (ls 9) true
          rw [e8,e9]
          refine .p3 ⟨(round_below hbw).trans q2,kpl_trans (kpl_below hi hbw) q3,?_⟩
          have hpq:=grow_parts hi3 hbw hpt0 hnt0 hpu hsW hsb hgrow hown' hfresh (fun k hk => (hT k hk).2) (fun g hg' => (hi.row.lt g hg').2) (by rw [hi.row.1,partsE_len];omega)
          have e : (pre ++ [(⟨(.pointer (some pa),es),hxr,hxs,hxl,hxsh⟩ : LV w O)]).flatMap (fun x => rangeL s x.1.2) = (pre.flatMap fun x => rangeL s x.1.2) ++ rangeL s es:=by simp
          unfold RangeE
          rw [e,List.length_append,List.map_append,List.flatMap_append,partsE_append]
          exact ⟨_,_,_,q1,hpq⟩⟩
       | k + 11,ho => simp at ho
    · have hno : rangeL s es = []:=by rw [hsel];exact List.drop_eq_nil_of_le (by rw [List.length_take];omega)
      exact ⟨round_below hbt,kpl_below hi hbt,RangeE.skip (RangeE.turn _ _ _ _ _ hI0 (turn_below hbt)) hno⟩
 case done =>
  rintro zs T W hS ⟨v,xs,β,hi,hpt,hnt⟩ hK
  have hbox : W.cell? ⟨w.heap.size + 1,0,none⟩ = some v:=by simp only [World.cell?,hi.box];rfl
  gi_wp2
  refine ⟨by simp,.inl ⟨_,_,rfl,run_takeDeferred hK,?_⟩⟩
  have e : zs.flatMap (fun x => rangeL s x.1.2) = rangeL s (flat d t):=by rw [hs0] at hS;exact rangeL_flat s zs hS
  rw [e] at hi hpt
  have hoth : ∀ k,wL.heap.size + 2 ≤ k → (W.putObj wL.heap.size (.deferred none)).heap[k]? = W.heap[k]?:=fun k hk => World.putObj_heap_other (by omega)
  rw [← List.length_map (f:=entV)] at hi
  obtain ⟨_,h2⟩:=OutAt.final (sh:=some 2) hi (ents_elems _) (.deferred none)
  rw [List.length_map] at hi
  refine ⟨_,results_tmp rfl _ _ _,v,xs,β,rfl,h2,?_,?_,fun j g hg => (hnt j g hg).2⟩
  · obtain ⟨hl,(hh | ⟨g,cap,cur,rfl,hbg,hg,hr⟩)⟩:=hi.row
    · exact ⟨hl,.inl hh⟩
    · exact ⟨hl,.inr ⟨g,cap,cur,rfl,by omega,(hoth g hbg).trans hg,hr⟩⟩
  · have hp2 : PartsAt (W.putObj wL.heap.size (.deferred none)) (wL.heap.size + 2) (partsE (rangeL s (flat d t))) xs β := hpt.move (by simp) fun j g hg => hoth g (hpt.ge j g hg).1
    exact ⟨hp2.rep,hp2.none_,hp2.inj,fun j k hk => ⟨by have:=(hp2.ge j k hk).1;omega,(hp2.ge j k hk).2⟩⟩
end Go.Proofs.Ytnieankaikhmnaa

set_option linter.unusedVariables false
namespace Go.Ev
open Go.RowKit
theorem makes_spec {P : Program} {f : FuncId} {os outs : List OV} {r : OV} (houts : ∀ (i : Nat) (o : OV),outs[i]? = some o → o ≠ .flat .gone → os[i]? = some o)
 (h : ∀ (w : World) (Oc : Nat → Prop) (us : List Value) (ab : Blk),us.length = os.length → (∀ k,Oc k → k < w.heap.size) → SRel w Oc (startSlots 0 os) (fun t => us.getD t Go.undef) ab →
   Calls P f us.toArray w fun e w' => ∃ v m β,e = .returned v ∧ (∀ O : Nat → Prop,ORep w' O r v m β) ∧ (∀ g,m = some g → w.heap.size ≤ g ∧ g < w'.heap.size) ∧ (∀ j g,β j = some g → (w.heap.size ≤ g ∧ g < w'.heap.size) ∧ m ≠ some g) ∧ (∀ i j g,β i = some g → β j = some g → i = j) ∧ Below w.heap.size w w') : CallSpec P f os [r] outs:=by
 intro w Oc us ab hlen hOc hS
 refine (h w Oc us ab hlen hOc hS).mono fun e w' ⟨v,m,β,he,hr,hm,hβ,hij,hb⟩ => ⟨v,he,⟨hb.os,hb.tape,hb.output,hb.size,fun k hk _ => hb.block k hk⟩,?_⟩
 have hS' : SRel w' Oc (startSlots 0 os) (fun t => us.getD t Go.undef) ab:=hS.world hb.size (fun k hk _ => hb.block k hk) (fun k _ q => q)
 have hab0 : ∀ c,ab us.length c = none:=by
  have ht:=hS.rep us.length
  rw [get_start,if_pos (Nat.zero_le _),Nat.sub_zero,List.getElem?_eq_none (by omega)] at ht
  exact ht
 obtain ⟨ob,hob⟩ : ∃ ob : Blk,ob = fun t c => if t = us.length then (match c with | none => m | some j => β j) else ab t c:=⟨_,rfl⟩
 have obN : ∀ c,ob us.length c = (match c with | none => m | some j => β j):=fun c => by rw [hob];exact if_pos rfl
 have obO : ∀ t c,t ≠ us.length → ob t c = ab t c:=fun t c h => by rw [hob];exact if_neg h
 have hnew : ∀ c k,ob us.length c = some k → w.heap.size ≤ k ∧ k < w'.heap.size:=fun c k q => by
  rw [obN] at q
  cases c with
  | none => exact hm k q
  | some j => exact (hβ j k q).1
 have hhas : ∀ k,k < w.heap.size → ¬ ab.off Oc k → ¬ ob.off Oc k:=fun k hk hno q => by
  rcases q with ⟨t,c,q⟩ | q
  · by_cases ht : t = us.length
    · subst ht;have:=(hnew c k q).1;omega
    · rw [obO t c ht] at q;exact hno (.inl ⟨t,c,q⟩)
  · exact hno (.inr q)
 refine ⟨us.length,startSlots 0 (os ++ [r]),fun t => if t = us.length then v else us.getD t Go.undef,ob,⟨fun t => ?_,fun t c t' c' k q q' => ?_,fun t c k q => ?_⟩,fun t c k q => ?_,Nat.le_refl _,fun i o hi hg => ?_,fun j o hj => ?_,?_⟩
 · have ht:=hS.rep t
   rw [get_start,if_pos (Nat.zero_le _),Nat.sub_zero] at ht ⊢
   rcases Nat.lt_trichotomy t us.length with hlt | heq | hgt
   · rw [List.getElem?_append_left (by omega)]
     simp only [if_neg (Nat.ne_of_lt hlt)]
     have e : ob t = ab t:=funext fun c => obO t c (by omega)
     rw [e]
     cases ho : os[t]? with
     | none => rw [List.getElem?_eq_none_iff] at ho;omega
     | some o =>
       rw [ho] at ht
       have ht : ORep w (ab.off Oc) o (us.getD t Go.undef) (ab t none) (fun j => ab t (some j)):=ht
       exact ht.move ⟨fun k hk hno => ⟨hb.block k hk,hhas k hk hno⟩,fun k hk => hb.block k (by rcases hk with hk | ⟨j,hk⟩ <;> exact (hS.out _ _ _ hk).2)⟩
   · subst heq
     rw [hlen,List.getElem?_append_right (Nat.le_refl _),Nat.sub_self,← hlen]
     simp only [if_true]
     show ORep w' _ r v (ob us.length none) (fun j => ob us.length (some j))
     have e : (fun j => ob us.length (some j)) = β := funext fun j => obN _
     rw [obN none,e]
     exact hr _
   · have hn : os[t]? = none:=List.getElem?_eq_none (by omega)
     rw [hn] at ht
     have hd : ∀ c,ab t c = none:=ht
     rw [List.getElem?_eq_none (by simp;omega)]
     exact fun c => (obO t c (by omega)).trans (hd c)
 · by_cases h1 : t = us.length <;> by_cases h2 : t' = us.length
   · subst h1;subst h2
     refine ⟨rfl,?_⟩
     rw [obN] at q q'
     cases c with
     | none => cases c' with
       | none => rfl
       | some j => exact ((hβ j k q').2 q).elim
     | some i => cases c' with
       | none => exact ((hβ i k q).2 q').elim
       | some j => rw [hij i j k q q']
   · subst h1
     rw [obO t' c' h2] at q'
     have:=(hnew c k q).1;have:=(hS.out _ _ _ q').2;omega
   · subst h2
     rw [obO t c h1] at q
     have:=(hnew c' k q').1;have:=(hS.out _ _ _ q).2;omega
   · rw [obO t c h1] at q;rw [obO t' c' h2] at q'
     exact hS.inj _ _ _ _ _ q q'
 · by_cases h1 : t = us.length
   · subst h1
     exact ⟨fun h => by have:=(hnew c k q).1;have:=hOc k h;omega,(hnew c k q).2⟩
   · rw [obO t c h1] at q
     exact ⟨(hS.out _ _ _ q).1,Nat.lt_of_lt_of_le (hS.out _ _ _ q).2 hb.size⟩
 · by_cases h1 : t = us.length
   · subst h1;exact .inr (hnew c k q).1
   · rw [obO t c h1] at q;exact .inl ⟨t,c,q⟩
 · have hoi:=houts i o hi hg
   have hil:=(List.getElem?_eq_some_iff.1 hoi).1
   refine ⟨?_,?_,by omega⟩
   · rw [get_start,if_pos (Nat.zero_le _),Nat.sub_zero,List.getElem?_append_left hil,hoi]
   · simp only [if_neg (show i ≠ us.length by omega)]
 · cases j with
   | zero =>
     simp at hj
     subst hj
     rw [get_start,if_pos (Nat.zero_le _),Nat.sub_zero,Nat.add_zero,hlen,List.getElem?_append_right (Nat.le_refl _),Nat.sub_self]
     rfl
   | succ j => simp at hj
 · simp [resultVal]
end Go.Ev
namespace Go.Proofs.Ytnieankaikhmnaa
open Go Go.Ev Go.RowKit Go.T14
theorem ents_own {W : World} {B : Nat} {l : List Ent} {xs : List Value} {β : Nat → Option Nat} {v : Value} (hrow : W.ownsRow B 33 2 v l.length xs) (hp : PartsAt W B (partsE l) xs β) (hl0 : l = [] → ∀ j,β j = none) (O : Nat → Prop) :
 ORep W O (.cont .ents (partsE l)) v v.ownBlock β := by
 obtain ⟨hl,hh⟩:=hrow
 have hrep : ∀ (j : Nat) f,(partsE l)[j]? = some f → ∃ u,xs[j]? = some u ∧ FRep W O f u (β j):=fun j f hj => by
  obtain ⟨u,h1,h2⟩:=hp.rep j f hj
  obtain ⟨_,k,rfl⟩:=parts_whole hj
  exact ⟨u,h1,h2.plain (P:=Try.prog) (t:=23) (by kernel_rfl) (row23 k)⟩
 rcases hh with ⟨rfl,h0⟩ | ⟨g,cap,cur,rfl,hB,hg,hc,hm,hs,ht⟩
 · have : l = []:=List.length_eq_zero_iff.1 h0
   subst this
   have e : β = fun _ => none:=funext fun j => hl0 rfl j
   rw [e]
   exact .entsE none
 · refine .ents (partsE l) l.length g cap cur 33 (0,0) β hg rfl (by omega) (partsE_len l) hc (fun j f hj => ?_) (fun j f hj => (parts_whole hj).1) ⟨fun j f hj => ?_,hp.none_⟩
   · obtain ⟨_,k,rfl⟩:=parts_whole hj
     trivial
   · obtain ⟨u,h1,h2⟩:=hrep j f hj
     refine ⟨u,?_,h2⟩
     have hj' : j < l.length * 2:=by have:=(List.getElem?_eq_some_iff.1 hj).1;rw [partsE_len] at this;omega
     rw [← ht,List.getElem?_take,if_pos hj'] at h1
     simpa using h1
theorem rangeE_spec {os : List OV} {rr : List OV × List OV} (h : primRangeE os = some rr) : CallSpec Try.prog 10 os rr.1 rr.2:=by
 obtain ⟨d,t,s,hg,rfl,rfl⟩:=primRangeE_inv h
 refine makes_spec (fun i o hi _ => ?_) fun w Oc us ab hlen hOc hS => ?_
 · match i with
   | 0 => exact hi
   | i + 1 => simp at hi
 · match us,hlen with
   | [u0,u1],_ =>
     have h0 : ORep w (ab.off Oc) (.cont .box [.val (enc d t)]) u0 (ab 0 none) (fun j => ab 0 (some j)):=hS.rep 0
     have h1 : ORep w (ab.off Oc) (.flat (.val (spV s))) u1 (ab 1 none) (fun j => ab 1 (some j)):=hS.rep 1
     obtain ⟨tb,x,rfl,hc,hr⟩:=box_inv h0
     refine (range_own s hg (off_lt hS hOc) hc hr (ORep.flat_inv h1).1.val_inv.1).mono ?_
     rintro e w' ⟨v,xs,β,he,hb,hrow,hp,hd⟩
     have hv : ∀ g,v.ownBlock = some g → w.heap.size ≤ g ∧ g < w'.heap.size:=fun g hg' => hrow.lt g hg'
     exact ⟨v,v.ownBlock,β,he,fun O => ents_own hrow hp (fun h0 j => hp.none_ j (by rw [h0];exact Nat.zero_le _)) O,hv,fun j g hg' => ⟨hp.ge j g hg',hd j g hg'⟩,hp.inj,hb⟩
end Go.Proofs.Ytnieankaikhmnaa

set_option linter.unusedVariables false
namespace Go.Proofs.Ytnieankaikhmnaa
open Go Go.Ev Go.RowKit Go.Shelf Go.T14 Go.W14
attribute [local go_sem] Oper.semAt_some
structure Spoilt (w wr : World) (b m p : Nat) (cp g : Nat → Nat) : Prop where
 os : wr.os = w.os
 tape : wr.tape = w.tape
 output : wr.output = w.output
 size : w.heap.size ≤ wr.heap.size
 same : ∀ q,q < w.heap.size → q ≠ b → (∀ j,j < m → 0 < cp j → q ≠ g j) → wr.heap[q]? = w.heap[q]?
 row : ∃ cur cur' e fr,w.heap[b]? = some (.cells cur e fr) ∧ wr.heap[b]? = some (.cells cur' e fr) ∧ Thawed cur' fr ∧ cur'.size = cur.size ∧ ∀ j,p ≤ j → cur'[j]? = cur[j]?
section
variable {w wr : World} {b N m p : Nat} {A : Nat → Option Addr} {n cp g : Nat → Nat}
theorem Spoilt.cell (h : Spoilt w wr b m p cp g) (hR : RowsOf w b N A n cp g) {j : Nat} (hj : j < N) (hp : p ≤ j) : wr.cell? ⟨b,j,none⟩ = some (.slice (A j) (n j) (cp j)):=by
 obtain ⟨cur,cur',e,fr,h1,h2,h3,h4,h5⟩:=h.row
 have hc:=hR.cell j hj
 simp only [World.cell?,h1] at hc
 simp only [World.cell?,h2]
 rw [h5 j hp];exact hc
theorem Spoilt.drew (h : Spoilt w wr b m p cp g) : Spoilt w wr.drew b m p cp g:=⟨h.os,h.tape,h.output,h.size,h.same,h.row⟩
theorem g_lt (hR : RowsOf w b N A n cp g) {j : Nat} (hj : j < N) (hc : 0 < cp j) : g j < w.heap.size:=by
 obtain ⟨_,_,cu,t,fr,h,_⟩:=hR.at_ j hj hc
 exact (Array.getElem?_eq_some_iff.1 h).1
theorem b_lt (h : Spoilt w wr b m p cp g) : b < w.heap.size:=by
 obtain ⟨cur,cur',e,fr,h1,_⟩:=h.row
 exact (Array.getElem?_eq_some_iff.1 h1).1
theorem two_rows (h : Spoilt w wr b m p cp g) (hR : RowsOf w b N A n cp g) (hm : m + 2 ≤ N) :
 RowsOf (wr.alloc (.cells #[.slice (A m) (n m) (cp m),.slice (A (m + 1)) (n (m + 1)) (cp (m + 1))] 23)) wr.heap.size 2 (fun j => A (m + j)) (fun j => n (m + j)) (fun j => cp (m + j)) (fun j => g (m + j)):=by
 have hnew : (wr.alloc (.cells #[.slice (A m) (n m) (cp m),.slice (A (m + 1)) (n (m + 1)) (cp (m + 1))] 23)).heap[wr.heap.size]? = some (.cells #[.slice (A m) (n m) (cp m),.slice (A (m + 1)) (n (m + 1)) (cp (m + 1))] 23 (0,0)):=World.alloc_heap_new wr _
 refine ⟨fun j hj => ?_,fun j hj => hR.small _ (by omega),fun j hj hc => ?_,fun i j hi hj h1 h2 e => ?_⟩
 · simp only [World.cell?,hnew]
   match j,hj with
   | 0,_ => rfl
   | 1,_ => rfl
 · obtain ⟨q1,q2,cu,t,fr,q3,q4,q5⟩:=hR.at_ (m + j) (by omega) hc
   have hl:=g_lt hR (show m + j < N by omega) hc
   have hs:=h.size
   refine ⟨q1,by show g (m + j) ≠ _;omega,cu,t,fr,?_,q4,q5⟩
   show (wr.alloc _).heap[g (m + j)]? = _
   rw [Below.heap_alloc _ _ _ (by omega),h.same _ hl q2 fun i hi hci e => ?_]
   · exact q3
   · have:=hR.apart (m + j) i (by omega) (by omega) hc hci e;omega
 · have:=hR.apart (m + i) (m + j) (by omega) (by omega) h1 h2 e;omega
theorem Spoilt.rows {w' : World} {f : Nat → Nat} (h : Spoilt w wr b m p cp g) (hR : RowsOf w b N A n cp g) (hm : m + 2 ≤ N) {o : Obj} (hW : Written (wr.alloc o) w' 2 (fun j => cp (m + j)) (fun j => g (m + j)) f) : Spoilt w w' b (m + 2) p cp g:=by
 have hs:=h.size
 refine ⟨hW.os.trans h.os,hW.tape.trans h.tape,hW.output.trans h.output,by rw [hW.size];simp;omega,fun q hq hb hne => ?_,?_⟩
 · rw [hW.same q fun j hj hc => hne _ (by omega) hc,Below.heap_alloc _ _ _ (by omega)]
   exact h.same q hq hb fun j hj hc => hne j (by omega) hc
 · obtain ⟨cur,cur',e,fr,h1,h2,h3⟩:=h.row
   refine ⟨cur,cur',e,fr,h1,?_,h3⟩
   have hb:=b_lt h
   rw [hW.same b fun j hj hc e => (hR.at_ (m + j) (by omega) hc).2.1 e.symm,Below.heap_alloc _ _ _ (by omega)]
   exact h2
theorem Spoilt.put (h : Spoilt w wr b m p cp g) (v : Value) : Spoilt w (wr.setCell ⟨b,p,none⟩ v) b m (p + 1) cp g:=by
 have hne : ∀ q,q ≠ b → (wr.setCell ⟨b,p,none⟩ v).heap[q]? = wr.heap[q]?:=fun q hq => by simp [World.setCell,Array.getElem?_modify,Ne.symm hq]
 refine ⟨h.os,h.tape,h.output,by simp [World.setCell,h.size],fun q hq hb hn => (hne q hb).trans (h.same q hq hb hn),?_⟩
 obtain ⟨cur,cur',e,fr,h1,h2,h3,h4,h5⟩:=h.row
 refine ⟨cur,_,e,fr,h1,setCell_heap wr b p cur' v e fr h2,h3.size (by simp),by simpa using h4,fun j hj => ?_⟩
 rw [Array.getElem?_setIfInBounds,if_neg (by omega)]
 exact h5 j (by omega)
theorem Spoilt.thaw (h : Spoilt w wr b m p cp g) (hR : RowsOf w b N A n cp g) {j : Nat} (hj : j < N) : wr.frozen? ⟨b,j,none⟩ = false:=by
 obtain ⟨cur,cur',e,fr,h1,h2,h3,h4,h5⟩:=h.row
 have hc:=cell_lt (hR.cell j hj)
 have hcc:=hR.cell j hj
 simp only [World.cell?,h1] at hcc
 have hlt : j < cur.size:=(Array.getElem?_eq_some_iff.1 hcc).1
 simp only [World.frozen?,h2]
 have:=h3.out j (by omega)
 simp only [Bool.and_eq_false_iff,decide_eq_false_iff_not]
 omega
end
theorem arr25 (t : Array Value) (h : t.size = 25) : ∃ x0 x1 x2 x3 x4 x5 x6 x7 x8 x9 x10 x11 x12 x13 x14 x15 x16 x17 x18 x19 x20 x21 x22 x23 x24,t = #[x0,x1,x2,x3,x4,x5,x6,x7,x8,x9,x10,x11,x12,x13,x14,x15,x16,x17,x18,x19,x20,x21,x22,x23,x24]:=by
 obtain ⟨l⟩:=t
 have hl : l.length = 25:=h
 match l,hl with
 | [x0,x1,x2,x3,x4,x5,x6,x7,x8,x9,x10,x11,x12,x13,x14,x15,x16,x17,x18,x19,x20,x21,x22,x23,x24],_ => exact ⟨x0,x1,x2,x3,x4,x5,x6,x7,x8,x9,x10,x11,x12,x13,x14,x15,x16,x17,x18,x19,x20,x21,x22,x23,x24,rfl⟩
theorem wrap_succ64' {k n : Nat} (h : k < n) (hn : n ≤ 1000000) : wrap64 ((k : Int) + 1) = ((k + 1 : Nat) : Int):=by
 unfold wrap64;omega
set_option maxHeartbeats 4000000 in
set_option maxRecDepth 100000 in
theorem spoil_walk {w : World} {a : Addr} {b N c0 : Nat} {A : Nat → Option Addr} {n cp g : Nat → Nat} (ha : a = ⟨b,0,none⟩) (hR : RowsOf w b (2 * N) A n cp g) (hN : N ≤ 1000000) (h0 : Spoilt w w b 0 0 cp g) :
 Calls Try.prog 20 #[.slice (some a) N c0] w fun e w' => e = .returned (.tuple #[]) ∧ Spoilt w w' b (2 * N) (2 * N) cp g:=by
 have hadd : Keep (∀ k,a.add k = ⟨b,k,none⟩):=⟨fun k => by rw [ha,addr_add,Nat.zero_add]⟩
 clear ha
 refine (callsIn_wide (n:=2)).1 ?_
 refine callsIn_of_wp Try.func20 rfl trivial ?_ rfl
 simp only [Try.ntmps20,List.size_toArray,List.length_cons,List.length_nil,Nat.reduceAdd,Nat.reduceSub,Array.replicate_succ,Array.replicate_zero,List.push_toArray,List.append_toArray,List.nil_append,List.cons_append]
 gi_wp2
 gi_loopw [2] (fun i wr => ∃ k : Nat,k ≤ N ∧ i = .int .i64 k ∧ Spoilt w wr b (2 * k) (2 * k) cp g) (fun i wr => N - intN i)
 case atStart => exact ⟨0,Nat.zero_le _,rfl,h0⟩
 case round =>
  obtain ⟨k,hk,rfl,hB⟩:=hrel
  by_cases hlt : k < N
  · have c0_ : wr.cell? (a.add (k * 2)) = some (.slice (A (2 * k)) (n (2 * k)) (cp (2 * k))):=by rw [hadd.out,Nat.mul_comm];exact hB.cell hR (j:=2 * k) (by omega) (Nat.le_refl _)
    have c1_ : wr.cell? { block:=(a.add (k * 2)).block,off:=(a.add (k * 2)).off + 1,spot:=none } = some (.slice (A (2 * k + 1)) (n (2 * k + 1)) (cp (2 * k + 1))):=by
     rw [hadd.out,Nat.mul_comm];exact hB.cell hR (j:=2 * k + 1) (by omega) (by omega)
    gi_hideQ
    gi_wp2
    refine wpIn_region_inv mixed (by kernel_rfl) (by simp) (fun ls a' w' => ∃ g19,(a'.tmps.size = 25 ∧ a'.defers = []) ∧ SF [(0,none,.slice (some a) N c0),(1,none,undef),(2,none,.int .i64 k),(9,some 0,.slice (some a) N c0),(10,some 1,.int .i64 k),(11,some 2,.pointer (some (a.add (k * 2)))),(12,some 3,.pointer (some (a.add (k * 2)))),
     (13,some 4,.slice (A (2 * k)) (n (2 * k)) (cp (2 * k))),(14,some 5,.slice (some a) N c0),(15,some 6,.int .i64 k),(16,some 7,.pointer (some (a.add (k * 2)))),(17,some 8,.pointer (some ⟨(a.add (k * 2)).block,(a.add (k * 2)).off + 1,none⟩)),(18,some 9,.slice (A (2 * k + 1)) (n (2 * k + 1)) (cp (2 * k + 1))),(19,some 10,.slice (some ⟨g19,0,none⟩) 2 2),(20,some 11,.bool true)] ls a' ∧
     ((ls 10 = true → ls 4 = true ∧ ls 9 = true) ∧ (ls 11 = true → ls 10 = true)) ∧
     (ls 10 = false → w' = wr.drew) ∧ (ls 10 = true → ls 11 = false → g19 = wr.drew.heap.size ∧ w' = wr.drew.alloc (.cells #[.slice (A (2 * k)) (n (2 * k)) (cp (2 * k)),.slice (A (2 * k + 1)) (n (2 * k + 1)) (cp (2 * k + 1))] 23)) ∧
     (ls 11 = true → Spoilt w w' b (2 * k + 2) (2 * k) cp g)) ?h0 ?step ?fin
    case h0 =>
     refine ⟨0,⟨rfl,rfl⟩,SF.start fun e he hn => ?_,⟨fun h => Bool.noConfusion h,fun h => Bool.noConfusion h⟩,fun _ => rfl,fun h => Bool.noConfusion h,fun h => Bool.noConfusion h⟩
     simp only [List.mem_cons,List.not_mem_nil,or_false] at he
     rcases he with rfl | rfl | rfl | rfl | rfl | rfl | rfl | rfl | rfl | rfl | rfl | rfl | rfl | rfl | rfl <;> first | rfl | cases hn
    case fin =>
     rintro ls a' w' ⟨g19,⟨hsz',hdf⟩,hS,_,_,_,hw⟩ hall
     have hq:=hw (hall 11 (by decide))
     obtain ⟨tm,df⟩:=a'
     simp only at hsz' hdf hS
     subst hdf
     obtain ⟨y0,y1,y2,y3,y4,y5,y6,y7,y8,y9,y10,y11,y12,y13,y14,y15,y16,y17,y18,y19,y20,y21,y22,y23,y24,rfl⟩:=arr25 tm hsz'
     have z0 : y0 = .slice (some a) N c0:=hS.base (k:=0) (by simp)
     have z1 : y1 = undef:=hS.base (k:=1) (by simp)
     have z2 : y2 = .int .i64 k:=hS.base (k:=2) (by simp)
     subst z0 z1 z2
     have hwk : wrap64 ((k : Int) + 1) = ((k + 1 : Nat) : Int):=wrap_succ64' hlt hN
     have v0 : w'.cell? (a.add (k * 2)) = some (.slice (A (2 * k)) (n (2 * k)) (cp (2 * k))):=by rw [hadd.out,Nat.mul_comm];exact hq.cell hR (j:=2 * k) (by omega) (Nat.le_refl _)
     have t0 : w'.frozen? (a.add (k * 2)) = false:=by rw [hadd.out,Nat.mul_comm];exact hq.thaw hR (by omega)
     have hq1 : Spoilt w (w'.setCell (a.add (k * 2)) (.slice none 0 0)) b (2 * k + 2) (2 * k + 1) cp g:=by rw [hadd.out,Nat.mul_comm];exact hq.put _
     have hq2 : Spoilt w ((w'.setCell (a.add (k * 2)) (.slice none 0 0)).setCell { block:=(a.add (k * 2)).block,off:=(a.add (k * 2)).off + 1,spot:=none } (.slice none 0 0)) b (2 * (k + 1)) (2 * (k + 1)) cp g:=by
      have:=hq1.put (.slice none 0 0)
      rw [hadd.out,Nat.mul_comm] at this ⊢
      exact this
     have v1 : (w'.setCell (a.add (k * 2)) (.slice none 0 0)).cell? { block:=(a.add (k * 2)).block,off:=(a.add (k * 2)).off + 1,spot:=none } = some (.slice (A (2 * k + 1)) (n (2 * k + 1)) (cp (2 * k + 1))):=by
      have:=hq1.cell hR (j:=2 * k + 1) (by omega) (Nat.le_refl _)
      rw [hadd.out,Nat.mul_comm] at this ⊢
      exact this
     have t1 : (w'.setCell (a.add (k * 2)) (.slice none 0 0)).frozen? { block:=(a.add (k * 2)).block,off:=(a.add (k * 2)).off + 1,spot:=none } = false:=by
      have:=hq1.thaw hR (j:=2 * k + 1) (by omega)
      rw [hadd.out,Nat.mul_comm] at this ⊢
      exact this
     have kq : Keep (Spoilt w ((w'.setCell (a.add (k * 2)) (.slice none 0 0)).setCell { block:=(a.add (k * 2)).block,off:=(a.add (k * 2)).off + 1,spot:=none } (.slice none 0 0)) b (2 * (k + 1)) (2 * (k + 1)) cp g):=⟨hq2⟩
     clear hq hq1 hq2
     gi_wp2
     exact ⟨⟨k + 1,hlt,rfl,kq.out⟩,meas_lt hlt⟩
    case step =>
     rintro ls a' w' K i o ⟨g19,⟨hsz',hdf⟩,hS,⟨hc10,hc11⟩,hw0,hw1,hw2⟩ ho hls hall hK
     have no : ∀ j j',(ls j' = true → ls j = true) → ls j = false → ls j' = false:=fun j j' h hf => by
      cases hh : ls j' with
      | false => rfl
      | true => rw [h hh] at hf;cases hf
     match i,ho with
     | 0,ho =>
       obtain rfl:=Option.some.inj ho
       have f0:=hS.base (k:=0) (v := .slice (some a) N c0) (by simp)
       go_simp
       exact hK _ _ ⟨g19,⟨by simpa using hsz',(by first | rfl | exact hdf)⟩,hS.put (d:=9) (by omega) (by simp),⟨hc10,hc11⟩,hw0,hw1,hw2⟩
     | 1,ho =>
       obtain rfl:=Option.some.inj ho
       have f0:=hS.base (k:=2) (v := .int .i64 k) (by simp)
       go_simp
       exact hK _ _ ⟨g19,⟨by simpa using hsz',(by first | rfl | exact hdf)⟩,hS.put (d:=10) (by omega) (by simp),⟨hc10,hc11⟩,hw0,hw1,hw2⟩
     | 2,ho =>
       obtain rfl:=Option.some.inj ho
       have f0:=hS.get (k:=9) (j:=0) (v := .slice (some a) N c0) (by simp) (hall ⟨0,.data⟩ (by simp) rfl)
       have f1:=hS.get (k:=10) (j:=1) (v := .int .i64 k) (by simp) (hall ⟨1,.data⟩ (by simp) rfl)
       go_simp
       exact hK _ _ ⟨g19,⟨by simpa using hsz',(by first | rfl | exact hdf)⟩,hS.put (d:=11) (by omega) (by simp),⟨hc10,hc11⟩,hw0,hw1,hw2⟩
     | 3,ho =>
       obtain rfl:=Option.some.inj ho
       have f0:=hS.get (k:=11) (j:=2) (v := .pointer (some (a.add (k * 2)))) (by simp) (hall ⟨2,.data⟩ (by simp) rfl)
       go_simp
       exact hK _ _ ⟨g19,⟨by simpa using hsz',(by first | rfl | exact hdf)⟩,hS.put (d:=12) (by omega) (by simp),⟨hc10,hc11⟩,hw0,hw1,hw2⟩
     | 4,ho =>
       obtain rfl:=Option.some.inj ho
       have e10:=no 4 10 (fun h => (hc10 h).1) hls
       obtain rfl:=hw0 e10
       have f0:=hS.get (k:=12) (j:=3) (v := .pointer (some (a.add (k * 2)))) (by simp) (hall ⟨3,.data⟩ (by simp) rfl)
       have cc : wr.drew.cell? (a.add (k * 2)) = some (.slice (A (2 * k)) (n (2 * k)) (cp (2 * k))):=c0_
       go_simp
       exact hK _ _ ⟨g19,⟨by simpa using hsz',(by first | rfl | exact hdf)⟩,hS.put (d:=13) (by omega) (by simp),⟨fun h => ⟨rfl,(hc10 h).2⟩,hc11⟩,hw0,hw1,hw2⟩
     | 5,ho =>
       obtain rfl:=Option.some.inj ho
       have f0:=hS.base (k:=0) (v := .slice (some a) N c0) (by simp)
       go_simp
       exact hK _ _ ⟨g19,⟨by simpa using hsz',(by first | rfl | exact hdf)⟩,hS.put (d:=14) (by omega) (by simp),⟨hc10,hc11⟩,hw0,hw1,hw2⟩
     | 6,ho =>
       obtain rfl:=Option.some.inj ho
       have f0:=hS.base (k:=2) (v := .int .i64 k) (by simp)
       go_simp
       exact hK _ _ ⟨g19,⟨by simpa using hsz',(by first | rfl | exact hdf)⟩,hS.put (d:=15) (by omega) (by simp),⟨hc10,hc11⟩,hw0,hw1,hw2⟩
     | 7,ho =>
       obtain rfl:=Option.some.inj ho
       have f0:=hS.get (k:=14) (j:=5) (v := .slice (some a) N c0) (by simp) (hall ⟨5,.data⟩ (by simp) rfl)
       have f1:=hS.get (k:=15) (j:=6) (v := .int .i64 k) (by simp) (hall ⟨6,.data⟩ (by simp) rfl)
       go_simp
       exact hK _ _ ⟨g19,⟨by simpa using hsz',(by first | rfl | exact hdf)⟩,hS.put (d:=16) (by omega) (by simp),⟨hc10,hc11⟩,hw0,hw1,hw2⟩
     | 8,ho =>
       obtain rfl:=Option.some.inj ho
       have f0:=hS.get (k:=16) (j:=7) (v := .pointer (some (a.add (k * 2)))) (by simp) (hall ⟨7,.data⟩ (by simp) rfl)
       go_simp
       exact hK _ _ ⟨g19,⟨by simpa using hsz',(by first | rfl | exact hdf)⟩,hS.put (d:=17) (by omega) (by simp),⟨hc10,hc11⟩,hw0,hw1,hw2⟩
     | 9,ho =>
       obtain rfl:=Option.some.inj ho
       have e10:=no 9 10 (fun h => (hc10 h).2) hls
       obtain rfl:=hw0 e10
       have f0:=hS.get (k:=17) (j:=8) (v := .pointer (some ⟨(a.add (k * 2)).block,(a.add (k * 2)).off + 1,none⟩)) (by simp) (hall ⟨8,.data⟩ (by simp) rfl)
       have cc : wr.drew.cell? { block:=(a.add (k * 2)).block,off:=(a.add (k * 2)).off + 1,spot:=none } = some (.slice (A (2 * k + 1)) (n (2 * k + 1)) (cp (2 * k + 1))):=c1_
       go_simp
       exact hK _ _ ⟨g19,⟨by simpa using hsz',(by first | rfl | exact hdf)⟩,hS.put (d:=18) (by omega) (by simp),⟨fun h => ⟨(hc10 h).1,rfl⟩,hc11⟩,hw0,hw1,hw2⟩
     | 10,ho =>
       obtain rfl:=Option.some.inj ho
       have e11:=no 10 11 hc11 hls
       obtain rfl:=hw0 hls
       have e4:=hall ⟨4,.data⟩ (by simp) rfl
       have e9:=hall ⟨9,.data⟩ (by simp) rfl
       simp only at e4 e9
       have f0:=hS.get (k:=13) (j:=4) (v := .slice (A (2 * k)) (n (2 * k)) (cp (2 * k))) (by simp) e4
       have f1:=hS.get (k:=18) (j:=9) (v := .slice (A (2 * k + 1)) (n (2 * k + 1)) (cp (2 * k + 1))) (by simp) e9
       have h13 : a'.tmps[13]?.getD undef = .slice (A (2 * k)) (n (2 * k)) (cp (2 * k)):=by simpa using f0
       have h18 : a'.tmps[18]?.getD undef = .slice (A (2 * k + 1)) (n (2 * k + 1)) (cp (2 * k + 1)):=by simpa using f1
       have kz : Keep (a'.tmps.size = 25):=⟨hsz'⟩
       clear hsz'
       go_simp
       have hsz':=kz.out
       exact hK _ _ ⟨wr.heap.size,⟨by simpa using hsz',(by first | rfl | exact hdf)⟩,(hS.swap (by simp [hls])).put (d:=19) (by omega) (by simp),⟨fun _ => ⟨e4,e9⟩,fun _ => rfl⟩,fun h => Bool.noConfusion h,fun _ _ => ⟨rfl,rfl⟩,fun h => absurd (show ls 11 = true from h) (by rw [e11];simp)⟩
     | 11,ho =>
       obtain rfl:=Option.some.inj ho
       have e10:=hall ⟨10,.data⟩ (by simp) rfl
       simp only at e10
       obtain ⟨rfl,rfl⟩:=hw1 e10 hls
       have f0:=hS.get (k:=19) (j:=10) (v := .slice (some ⟨wr.drew.heap.size,0,none⟩) 2 2) (by simp) e10
       go_simp
       refine ⟨trivial,(callsIn_wide.2 (owned_walk (two_rows hB.drew hR (m:=2 * k) (by omega)) (by decide))).mono ?_⟩
       rintro e' W3 ⟨rfl,hW3⟩
       exact hK _ _ ⟨_,⟨by simpa using hsz',(by first | rfl | exact hdf)⟩,hS.put (d:=20) (by omega) (by simp),⟨hc10,fun _ => e10⟩,fun h => absurd (show ls 10 = true from e10) (by rw [show ls 10 = false from h];simp),fun _ h => Bool.noConfusion h,fun _ => hB.drew.rows hR (by omega) hW3⟩
     | k + 12,ho => simp at ho
  · have hke : k = N:=by omega
    subst hke
    gi_wp2
    exact bodyPost_end (results_none rfl _ _ _) rfl ⟨rfl,hB⟩
end Go.Proofs.Ytnieankaikhmnaa

set_option linter.unusedVariables false
namespace Go.Proofs.Ytnieankaikhmnaa
open Go Go.Ev Go.RowKit Go.Shelf Go.T14 Go.W14
set_option maxHeartbeats 4000000 in
set_option maxRecDepth 100000 in
theorem spoil_nil (A : Option Addr) (W0 : World) : Calls Try.prog 20 #[.slice A 0 0] W0 fun e w' => e = .returned (.tuple #[]) ∧ w' = W0:=by
 go_enter Try.func20,Try.ntmps20
 go_wp2
 go_loopw [2] (fun k wr => k = .int .i64 0 ∧ wr = W0) (fun k _ => 0)
 case atStart => exact ⟨rfl,rfl⟩
 case round =>
  obtain ⟨rfl,rfl⟩:=hrel
  go_wp2
  exact bodyPost_end (results_none rfl _ _ _) rfl ⟨rfl,rfl⟩
theorem spoil_spec {os : List OV} {rr : List OV × List OV} (h : primSpoil os = some rr) : CallSpec Try.prog 20 os rr.1 rr.2:=by
 unfold primSpoil at h
 split at h
 · rename_i cs
   split at h
   · rename_i hc
     cases h
     simp only [Bool.and_eq_true] at hc
     obtain ⟨hb,hl⟩:=hc
     rw [Nat.ble_eq] at hl
     intro w Oc us ab hlen hOc hS
     match us,hlen with
     | [u],_ =>
       have out : ∀ w' : World,Grow w w' ab → CallOut w w' Oc ab [u] [] [.flat .gone] (.tuple #[]):=by
        intro w' _
        refine ⟨⟨1,[],fun _ => .bool true,fun _ _ => none,⟨fun t => fun _ => rfl,fun t c t' c' k q => (by cases q),fun t c k q => (by cases q)⟩,fun t c k q => (by cases q),Nat.le_refl _,fun i o hi hg => ?_,fun j o hj => (by simp at hj),rfl⟩⟩
        cases i with
        | zero => simp at hi;exact absurd hi.symm hg
        | succ i => simp at hi
       have hr : ORep w (ab.off Oc) (.cont .ents cs) u (ab 0 none) (fun j => ab 0 (some j)):=hS.rep 0
       generalize hm : ab 0 none = m at hr
       generalize hβ : (fun j => ab 0 (some j)) = β at hr
       cases hr with
       | entsE A =>
         refine (spoil_nil A w).mono fun e w' ⟨he,hw⟩ => ?_
         subst hw
         exact ⟨_,he,Grow.refl _ _,out _ (Grow.refl _ _)⟩
       | ents _ n b c cur e fr _ hbk ht hcs hn2 hlc hk hg hcell =>
         have hv : ∀ j,j < cs.length → ∃ u,cur[j]? = some u ∧ isRowB (cs.getD j .gone) = true ∧ FRep w (ab.off Oc) (cs.getD j .gone) u (β j):=by
          intro j hj
          have hf : cs[j]? = some cs[j]:=List.getElem?_eq_getElem hj
          obtain ⟨u,h1,h2⟩:=hcell.rep j _ hf
          have e1 : cs.getD j .gone = cs[j]:=by simp [List.getD,hf]
          rw [e1]
          exact ⟨u,h1,List.all_eq_true.1 hb _ (List.getElem_mem hj),h2⟩
         let val : Nat → Value:=fun j => cur.getD j Go.undef
         have hval : ∀ j,j < cs.length → cur[j]? = some (val j) ∧ val j = .slice (rowA (val j)) (rowN (val j)) (rowC (val j)) ∧ rowN (val j) ≤ rowC (val j) ∧ rowC (val j) ≤ 9223372036854775807 ∧
          (0 < rowC (val j) → rowA (val j) = some ⟨rowG (val j),0,none⟩ ∧ ab 0 (some j) = some (rowG (val j)) ∧ ∃ cu t fr,w.heap[rowG (val j)]? = some (.cells cu t fr) ∧ Thawed cu fr ∧ rowC (val j) ≤ cu.size):=by
          intro j hj
          obtain ⟨u,h1,h2,h3⟩:=hv j hj
          have e1 : val j = u:=by simp [val,Array.getD_eq_getD_getElem?,h1]
          rw [e1]
          obtain ⟨g1,g2,g3,g4⟩:=rowB_rep h2 h3
          refine ⟨h1,g1,g2,g3,fun hc => ?_⟩
          obtain ⟨k1,k2,k3⟩:=g4 hc
          rw [← hβ] at k2
          exact ⟨k1,k2,k3⟩
         have hR : RowsOf w b cs.length (fun j => rowA (val j)) (fun j => rowN (val j)) (fun j => rowC (val j)) (fun j => rowG (val j)):=by
          refine ⟨fun j hj => ?_,fun j hj => ⟨(hval j hj).2.2.1,(hval j hj).2.2.2.1⟩,fun j hj hc => ?_,fun i j hi hj hci hcj e => ?_⟩
          · have h1:=(hval j hj).1
            simp only [World.cell?,hbk]
            rw [← (hval j hj).2.1]
            simpa using h1
          · obtain ⟨k1,k2,k3⟩:=(hval j hj).2.2.2.2 hc
            refine ⟨k1,fun e => ?_,k3⟩
            have hmb : ab 0 none = some b:=hm
            rw [e] at k2
            have:=(hS.inj _ _ _ _ _ hmb k2).2
            cases this
          · obtain ⟨_,k2,_⟩:=(hval i hi).2.2.2.2 hci
            obtain ⟨_,l2,_⟩:=(hval j hj).2.2.2.2 hcj
            rw [e] at k2
            have:=(hS.inj _ _ _ _ _ k2 l2).2
            cases this
            rfl
         rw [hn2] at hR
         have h0 : Spoilt w w b 0 0 (fun j => rowC (val j)) (fun j => rowG (val j)):=⟨rfl,rfl,rfl,Nat.le_refl _,fun _ _ _ _ => rfl,cur,cur,e,fr,hbk,hbk,ht,rfl,fun _ _ => rfl⟩
         refine (spoil_walk (c0:=c) rfl hR (by omega) h0).mono fun e' w' ⟨he,hW⟩ => ?_
         have hG : Grow w w' ab:=⟨hW.os,hW.tape,hW.output,hW.size,fun k hk' hno => hW.same k hk' (fun q => hno ⟨0,none,by rw [hm,q]⟩) fun j hj hc q => hno ⟨0,some j,by rw [((hval j (by omega)).2.2.2.2 hc).2.1,q]⟩⟩
         exact ⟨_,he,hG,out w' hG⟩
   · cases h
 · cases h
end Go.Proofs.Ytnieankaikhmnaa

