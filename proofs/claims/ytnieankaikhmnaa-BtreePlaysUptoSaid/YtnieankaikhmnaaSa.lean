/- What the functions answer, and the laws. -/
import Derived.Test.YtnieankaikhmnaaQ

set_option linter.unusedVariables false

set_option linter.unusedSimpArgs false

set_option linter.unusedSectionVars false

set_option linter.unusedVariables false
namespace Go.Ev
structure PartsAt (W : World) (B : Nat) (ps : List FV) (xs : List Value) (β : Nat → Option Nat) : Prop where
 rep : ∀ (j : Nat) f,ps[j]? = some f → ∃ u,xs[j]? = some u ∧ FRep W (fun _ => True) f u (β j)
 none_ : ∀ j,ps.length ≤ j → β j = none
 inj : ∀ i j k,β i = some k → β j = some k → i = j
 ge : ∀ j k,β j = some k → B ≤ k ∧ k < W.heap.size
theorem FRep.still {W W' : World} {f : FV} {u : Value} {m : Option Nat} (h : FRep W (fun _ => True) f u m) (H : ∀ k,m = some k → W'.heap[k]? = W.heap[k]?) : FRep W' (fun _ => True) f u m :=
 h.move ⟨fun k _ hn => absurd trivial hn,fun k hk => H k hk⟩
theorem PartsAt.move {W W' : World} {B : Nat} {ps : List FV} {xs : List Value} {β : Nat → Option Nat} (h : PartsAt W B ps xs β) (hs : W.heap.size ≤ W'.heap.size) (H : ∀ j k,β j = some k → W'.heap[k]? = W.heap[k]?) : PartsAt W' B ps xs β :=
 ⟨fun j f hj => let ⟨u,h1,h2⟩:=h.rep j f hj;⟨u,h1,h2.still fun k hk => H j k hk⟩,h.none_,h.inj,fun j k hk => ⟨(h.ge j k hk).1,Nat.lt_of_lt_of_le (h.ge j k hk).2 hs⟩⟩
theorem PartsAt.nil (W : World) (B : Nat) : PartsAt W B [] [] (fun _ => none):=⟨fun j f h => by simp at h,fun _ _ => rfl,fun i j k h _ => (by cases h),fun j k h => (by cases h)⟩
theorem PartsAt.append {W : World} {B B2 : Nat} {ps qs : List FV} {xs ys : List Value} {β γ : Nat → Option Nat} (h : PartsAt W B ps xs β) (h2 : PartsAt W B2 qs ys γ) (hl : xs.length = ps.length) (hB : B ≤ B2) (hd : ∀ j k,β j = some k → k < B2) :
 PartsAt W B (ps ++ qs) (xs ++ ys) (fun j => if j < ps.length then β j else γ (j - ps.length)):=by
 refine ⟨fun j f hj => ?_,fun j hj => ?_,fun i j k hi hj => ?_,fun j k hk => ?_⟩
 · rw [List.getElem?_append] at hj ⊢
   rw [hl]
   by_cases hlt : j < ps.length
   · rw [if_pos hlt] at hj ⊢
     simp only [if_pos hlt]
     exact h.rep j f hj
   · rw [if_neg hlt] at hj ⊢
     simp only [if_neg hlt]
     exact h2.rep _ f hj
 · rw [List.length_append] at hj
   simp only [if_neg (show ¬ j < ps.length by omega)]
   exact h2.none_ _ (by omega)
 · by_cases h1 : i < ps.length <;> by_cases h3 : j < ps.length <;> simp only [h1,h3,if_true,if_false] at hi hj
   · exact h.inj i j k hi hj
   · have:=hd i k hi;have:=(h2.ge _ k hj).1;omega
   · have:=hd j k hj;have:=(h2.ge _ k hi).1;omega
   · have:=h2.inj _ _ k hi hj;omega
 · by_cases h1 : j < ps.length <;> simp only [h1,if_true,if_false] at hk
   · exact h.ge j k hk
   · exact ⟨Nat.le_trans hB (h2.ge _ k hk).1,(h2.ge _ k hk).2⟩
theorem CallSpec.own1 {P : Program} {f : FuncId} {vs : List PV} {t : TypeId} {sh : Option Nat} {xs : List PV} (hcs : CallSpec P f (vs.map fun v => .flat (.val v)) [.flat (.own sh xs [])] []) (hp : fvPlain P t (.own sh xs []) = true) (ht : FV.typed P t (.own sh xs []) = true)
 {W : World} {Oc : Nat → Prop} (hOc : ∀ k,Oc k → k < W.heap.size) {args : Array Value} (hlen : vs.length = args.toList.length) (hrep : ∀ (j : Nat) v u,vs[j]? = some v → args.toList[j]? = some u → RepV W Oc v u) :
 Calls P f args W fun e W' => ∃ v m,e = .returned v ∧ FRep W' (fun _ => True) (.own sh xs []) v m ∧ (∀ g,m = some g → W.heap.size ≤ g ∧ g < W'.heap.size) ∧ Go.RowKit.Below W.heap.size W W':=by
 have hS : SRel W Oc (startSlots 0 (vs.map fun v => OV.flat (.val v))) (fun t => args.toList.getD t Go.undef) (fun _ _ => none):=by
  refine ⟨fun t => ?_,fun t c t' c' k q => (by cases q),fun t c k q => (by cases q)⟩
  rw [get_start,if_pos (Nat.zero_le _),Nat.sub_zero,List.getElem?_map]
  cases hv : vs[t]? with
  | none => exact fun _ => rfl
  | some v =>
    have hlt:=(List.getElem?_eq_some_iff.1 hv).1
    have hu : args.toList[t]? = some (args.toList[t]'(by omega)):=List.getElem?_eq_getElem _
    have hget : args.toList.getD t Go.undef = args.toList[t]'(by omega):=by simp [List.getD,hu]
    show ORep _ _ (.flat (.val v)) (args.toList.getD t Go.undef) _ _
    rw [hget]
    refine .flat _ _ _ (.val _ _ ((hrep t v _ hv hu).move fun k _ hk => ⟨rfl,?_⟩))
    rintro (⟨_,_,q⟩ | q)
    · cases q
    · exact hk q
 have hcall:=hcs W Oc args.toList (fun _ _ => none) (by simp [hlen]) hOc hS
 have hargs : args.toList.toArray = args:=by simp
 rw [hargs] at hcall
 refine hcall.mono fun e W' ⟨v,he,hG,hco⟩ => ?_
 obtain ⟨N,stO,tmO,ob,k1,k2,_,_,k5,k6⟩:=hco.ex
 have hr':=k1.rep (N + 0)
 rw [k5 0 _ rfl] at hr'
 have hf:=(ORep.flat_inv hr').1
 refine ⟨v,ob (N + 0) none,he,?_,fun g hg => ⟨?_,(k1.out _ _ _ hg).2⟩,⟨hG.os,hG.tape,hG.output,hG.size,fun k hk => hG.same k hk fun ⟨_,_,q⟩ => by cases q⟩⟩
 · rw [k6]
   exact hf.plain (P:=P) (t:=t) hp ht
 · rcases k2 _ _ _ hg with ⟨_,_,q⟩ | q
   · cases q
   · exact q
end Go.Ev
namespace Go.Proofs.Ytnieankaikhmnaa
open Go Go.Ev Go.RowKit Go.Shelf Go.T14 Go.W14
attribute [local go_sem] Oper.semAt_some
theorem clone_own (k : List UInt8) (hk : k.length ≤ big) {W : World} {O : Nat → Prop} (hO : ∀ k,O k → k < W.heap.size) {u : Value} (hu : RepV W O (bV k) u) :
 Calls Try.prog 27 #[u] W fun e W' => ∃ v m,e = .returned v ∧ FRep W' (fun _ => True) (.own none (bb k) []) v m ∧ (∀ g,m = some g → W.heap.size ≤ g ∧ g < W'.heap.size) ∧ Below W.heap.size W W':=by
 have hcs:=pcall_spec Sm.names Sm.prims _ _ _ _ (Sm.s27 0 k hk)
 refine CallSpec.own1 (t:=23) (vs:=[bV k]) hcs (by kernel_rfl) ?_ hO (args := #[u]) rfl ?_
 · exact row23 k
 · intro j x y h1 h2
   match j with
   | 0 => cases h1;cases h2;exact hu
   | j + 1 => simp at h1
theorem arr24 (t : Array Value) (h : t.size = 24) : ∃ x0 x1 x2 x3 x4 x5 x6 x7 x8 x9 x10 x11 x12 x13 x14 x15 x16 x17 x18 x19 x20 x21 x22 x23,t = #[x0,x1,x2,x3,x4,x5,x6,x7,x8,x9,x10,x11,x12,x13,x14,x15,x16,x17,x18,x19,x20,x21,x22,x23]:=by
 obtain ⟨l⟩:=t
 have hl : l.length = 24:=h
 match l,hl with
 | [x0,x1,x2,x3,x4,x5,x6,x7,x8,x9,x10,x11,x12,x13,x14,x15,x16,x17,x18,x19,x20,x21,x22,x23],_ => exact ⟨x0,x1,x2,x3,x4,x5,x6,x7,x8,x9,x10,x11,x12,x13,x14,x15,x16,x17,x18,x19,x20,x21,x22,x23,rfl⟩
theorem frep_slice {W : World} {O : Nat → Prop} {sh : Option Nat} {l sp : List PV} {u : Value} {m : Option Nat} (h : FRep W O (.own sh l sp) u m) : ∃ A n c,u = .slice A n c:=by
 cases h with
 | ownE sh A => exact ⟨_,_,_,rfl⟩
 | own => exact ⟨_,_,_,rfl⟩
theorem partsE_take {es : List Ent} {k : Nat} {e : Ent} (h : es[k]? = some e) : partsE (es.take (k + 1)) = partsE (es.take k) ++ [.own none (bb e.k) [],.own none (bb e.v) []]:=by
 rw [List.take_add_one,h]
 simp [partsE]
theorem partsE_len : ∀ (l : List Ent),(partsE l).length = 2 * l.length
 | [] => rfl
 | e :: l => by show (partsE l).length + 2 = _;rw [partsE_len l,List.length_cons];omega
theorem two_parts {W : World} {B : Nat} {k v : List UInt8} {a b : Value} {m n : Option Nat} (h1 : FRep W (fun _ => True) (.own none (bb k) []) a m) (h2 : FRep W (fun _ => True) (.own none (bb v) []) b n) (g1 : ∀ g,m = some g → B ≤ g ∧ g < W.heap.size) (g2 : ∀ g,n = some g → B ≤ g ∧ g < W.heap.size) (hd : ∀ g,m = some g → n = some g → False) :
 PartsAt W B [.own none (bb k) [],.own none (bb v) []] [a,b] (fun j => if j = 0 then m else if j = 1 then n else none):=by
 refine ⟨fun j f hj => ?_,fun j hj => ?_,fun i j k hi hj => ?_,fun j k hk => ?_⟩
 · match j with
   | 0 => cases hj;exact ⟨a,rfl,h1⟩
   | 1 => cases hj;exact ⟨b,rfl,h2⟩
   | j + 2 => simp at hj
 · simp only [List.length_cons,List.length_nil] at hj
   simp only [if_neg (show ¬ j = 0 by omega),if_neg (show ¬ j = 1 by omega)]
 · match i,j with
   | 0,0 => rfl
   | 1,1 => rfl
   | 0,1 => exact (hd k hi hj).elim
   | 1,0 => exact (hd k hj hi).elim
   | 0,j + 2 => cases hj
   | 1,j + 2 => cases hj
   | i + 2,_ => cases hi
 · match j with
   | 0 => exact g1 k hk
   | 1 => exact g2 k hk
   | j + 2 => cases hk
theorem getD_set {t : Array Value} {d k : Nat} {v : Value} (h : k ≠ d) : (t.setIfInBounds d v).getD k undef = t.getD k undef:=by
 rw [Array.getD_eq_getD_getElem?,Array.getElem?_setIfInBounds,if_neg (fun e => h e.symm),← Array.getD_eq_getD_getElem?]
theorem wrap_succ64 {k n : Nat} (h : k < n) (hn : n ≤ 1000) : wrap64 ((k : Int) + 1) = ((k + 1 : Nat) : Int):=by
 unfold wrap64;omega
theorem room_1 {k n : Nat} (h : k < n) (hn : n ≤ 1000) : k + 1 ≤ maxLen:=by unfold maxLen;omega
theorem room_2 {k n : Nat} (h : k < n) (hn : n ≤ 1000) : (k + 1) * 48 ≤ 140737488355328:=by omega
end Go.Proofs.Ytnieankaikhmnaa

set_option linter.unusedVariables false
namespace Go.Proofs.Ytnieankaikhmnaa
open Go Go.Ev Go.RowKit Go.Shelf Go.T14 Go.W14
attribute [local go_sem] Oper.semAt_some
theorem ent_at {W : World} {O : Nat → Prop} {es : List Ent} {a : Addr} {n c : Nat} (h : RepV W O (.sl (some 2) (es.map entV)) (.slice (some a) n c)) {i : Nat} {e : Ent} (he : es[i]? = some e) :
 ∃ ku vu,W.cell? (a.add (i * 2)) = some ku ∧ W.cell? (a.add (i * 2 + 1)) = some vu ∧ RepV W O (bV e.k) ku ∧ RepV W O (bV e.v) vu:=by
 generalize hq : PV.sl (some 2) (es.map entV) = p at h
 generalize hv : Value.slice (some a) n c = u at h
 cases h with
 | sl _ xs a' c' us hc hf hk ho hm hr =>
   cases hv
   injection hq with h1 h2
   subst h1 h2
   have hx : (es.map entV)[i]? = some (entV e):=by rw [List.getElem?_map,he];rfl
   exact ⟨us i 0,us i 1,hm i _ 0 _ hx rfl,hm i _ 1 _ hx rfl,hr i _ 0 _ hx rfl,hr i _ 1 _ hx rfl⟩
 | slNil => cases hv
 | _ => cases hq
theorem none_nil {W : World} {O : Nat → Prop} {sh : Option Nat} {l : List PV} {n c : Nat} (h : RepV W O (.sl sh l) (.slice none n c)) : l = []:=by
 generalize hq : PV.sl sh l = p at h
 generalize hv : Value.slice none n c = u at h
 cases h with
 | slNil => injection hq
 | sl => cases hv
 | _ => cases hq
def intN : Value → Nat
 | .int _ n => n.toNat
 | _ => 0
theorem meas_lt {k n : Nat} (h : k < n) : n - intN (.int .i64 ((k + 1 : Nat) : Int)) < n - intN (.int .i64 (k : Int)):=by
 simp only [intN,Int.toNat_natCast];omega
set_option maxHeartbeats 4000000 in
set_option maxRecDepth 100000 in
theorem copied_own (es : List Ent) (hl : es.length ≤ 1000) (hs : Short big es) {W : World} {O : Nat → Prop} (hO : ∀ k,O k → k < W.heap.size) {v : Value} (hv : RepV W O (.sl (some 2) (es.map entV)) v) :
 Calls Try.prog 25 #[v] W fun e W' => ∃ u xs β,e = .returned u ∧ Below W.heap.size W W' ∧ W'.ownsRow W.heap.size 33 2 u es.length xs ∧ PartsAt W' W.heap.size (partsE es) xs β := by
 obtain ⟨A,c,rfl,hce⟩:=sl_inv hv
 rw [List.length_map] at hce hv ⊢
 refine (callsIn_wide (n:=2)).1 ?_
 refine callsIn_of_wp Try.func25 rfl trivial ?_ rfl
 simp only [Try.ntmps25,List.size_toArray,List.length_cons,List.length_nil,Nat.reduceAdd,Nat.reduceSub,Array.replicate_succ,Array.replicate_zero,List.push_toArray,List.append_toArray,List.nil_append,List.cons_append]
 gi_wp2
 gi_loopw [3,8] (fun u i wr => ∃ (k : Nat) (xs : List Value) (β : Nat → Option Nat),k ≤ es.length ∧ i = .int .i64 k ∧ Below W.heap.size W wr ∧ wr.ownsRow W.heap.size 33 2 u k xs ∧ PartsAt wr W.heap.size (partsE (es.take k)) xs β ∧ ∀ j g,β j = some g → u.ownBlock ≠ some g) (fun u i wr => es.length - intN i)
 case atStart => exact ⟨0,[],fun _ => none,Nat.zero_le _,rfl,Below.refl _ _,World.ownsRow_nil _ _ _ _,by simpa [partsE] using PartsAt.nil _ _,fun j g h => (by cases h)⟩
 case round =>
  obtain ⟨k,xs,β,hk,rfl,hB,hrow,hP,hne⟩:=hrel
  by_cases hlt : k < es.length
  · obtain ⟨e,he⟩ : ∃ e,es[k]? = some e:=⟨_,List.getElem?_eq_getElem hlt⟩
    cases A with
    | none =>
      have:=congrArg List.length (none_nil hv)
      simp at this
      subst this
      simp at hlt
    | some a =>
      obtain ⟨ku,vu,c0,c1,r0,r1⟩:=ent_at hv he
      obtain ⟨kA,kc,rfl,_⟩:=sl_inv r0
      obtain ⟨vA,vc,rfl,_⟩:=sl_inv r1
      rw [List.length_map] at r0 c0 r1 c1
      have d0 : wr.cell? (a.add (k * 2)) = some (.slice kA e.k.length kc):=by rw [cell_same (hB.block _ (cell_lt c0))];exact c0
      have d1 : wr.cell? { block:=(a.add (k * 2)).block,off:=(a.add (k * 2)).off + 1,spot:=none } = some (.slice vA e.v.length vc):=by
       have e : (a.add (k * 2)).add 1 = { block:=(a.add (k * 2)).block,off:=(a.add (k * 2)).off + 1,spot:=none }:=rfl
       rw [← e,Ev.add_add,cell_same (hB.block _ (cell_lt c1))];exact c1
      gi_hideQ
      gi_wp2
      have heb : (wr.alloc (.cells #[.slice kA e.k.length kc,.slice vA e.v.length vc] 33)).heap[wr.heap.size]? = some (.cells #[.slice kA e.k.length kc,.slice vA e.v.length vc] 33 (0,0)):=World.alloc_heap_new wr _
      have hBA : Below W.heap.size W (wr.alloc (.cells #[.slice kA e.k.length kc,.slice vA e.v.length vc] 33)):=hB.alloc hB.size _
      have hrowA:=hrow.alloc (.cells #[.slice kA e.k.length kc,.slice vA e.v.length vc] 33)
      have hPA : PartsAt (wr.alloc (.cells #[.slice kA e.k.length kc,.slice vA e.v.length vc] 33)) W.heap.size (partsE (es.take k)) xs β := hP.move (by simp) fun j g hg => Below.heap_alloc _ _ _ (hP.ge j g hg).2
      have hsA : (wr.alloc (.cells #[.slice kA e.k.length kc,.slice vA e.v.length vc] 33)).heap.size = wr.heap.size + 1:=by simp
      generalize (wr.alloc (.cells #[.slice kA e.k.length kc,.slice vA e.v.length vc] 33)) = wA at heb hBA hrowA hPA hsA ⊢
      obtain ⟨i0,hi0,hz0,hz1,hz2⟩:=info_parts wi33
      refine wpIn_region_inv mixed (by kernel_rfl) (by simp) (fun ls a' w' => ∃ A15 n15 c15 A18 n18 c18 m15 m18 g20 u21,(a'.tmps.size = 24 ∧ a'.defers = [] ∧ (ls 10 = false → a'.tmps.getD 3 undef = u3)) ∧ SF [(0,none,.slice (some a) es.length c),(1,none,undef),(2,none,.slice none 0 0),(4,none,undef),(5,none,.pointer (some ⟨wr.heap.size,0,none⟩)),(6,none,.slice (some a) es.length c),(7,none,.int .i64 es.length),(8,none,.int .i64 k),(23,none,undef),(12,some 0,u3),(13,some 1,.pointer (some ⟨wr.heap.size,0,none⟩)),
       (14,some 2,.slice kA e.k.length kc),(15,some 3,.slice A15 n15 c15),(16,some 4,.pointer (some ⟨wr.heap.size,1,none⟩)),(17,some 5,.slice vA e.v.length vc),(18,some 6,.slice A18 n18 c18),(19,some 7,.agg #[.slice A15 n15 c15,.slice A18 n18 c18]),(20,some 8,.slice (some ⟨g20,0,none⟩) 1 1),(21,some 9,u21),(3,some 10,u21)] ls a' ∧
       ((ls 3 = true → ls 2 = true) ∧ (ls 6 = true → ls 3 = true ∧ ls 5 = true) ∧ (ls 7 = true → ls 6 = true) ∧ (ls 8 = true → ls 7 = true) ∧ (ls 9 = true → ls 8 = true ∧ ls 0 = true) ∧ (ls 10 = true → ls 9 = true)) ∧
       (ls 9 = false → Below wA.drew.heap.size wA.drew w' ∧ (ls 3 = true → FRep w' (fun _ => True) (.own none (bb e.k) []) (.slice A15 n15 c15) m15 ∧ ∀ g,m15 = some g → wA.drew.heap.size ≤ g ∧ g < w'.heap.size) ∧
         (ls 6 = true → FRep w' (fun _ => True) (.own none (bb e.v) []) (.slice A18 n18 c18) m18 ∧ (∀ g,m18 = some g → wA.drew.heap.size ≤ g ∧ g < w'.heap.size) ∧ ∀ g,m15 = some g → m18 = some g → False) ∧
         (ls 8 = true → w'.heap[g20]? = some (.cells #[.slice A15 n15 c15,.slice A18 n18 c18] 33 (0,0)))) ∧
       (ls 9 = true → ∃ β',w'.ownsRow W.heap.size 33 2 u21 (k + 1) (xs ++ [.slice A15 n15 c15,.slice A18 n18 c18]) ∧ Below W.heap.size W w' ∧ PartsAt w' W.heap.size (partsE (es.take (k + 1))) (xs ++ [.slice A15 n15 c15,.slice A18 n18 c18]) β' ∧ ∀ j g,β' j = some g → u21.ownBlock ≠ some g)) ?h0 ?step ?fin
      case h0 =>
       refine ⟨none,0,0,none,0,0,none,none,0,undef,⟨rfl,rfl,fun _ => rfl⟩,SF.start fun e he hn => ?_,⟨fun h => Bool.noConfusion h,fun h => Bool.noConfusion h,fun h => Bool.noConfusion h,fun h => Bool.noConfusion h,fun h => Bool.noConfusion h,fun h => Bool.noConfusion h⟩,fun _ => ⟨Below.refl _ _,fun h => Bool.noConfusion h,fun h => Bool.noConfusion h,fun h => Bool.noConfusion h⟩,fun h => Bool.noConfusion h⟩
       simp only [List.mem_cons,List.not_mem_nil,or_false] at he
       rcases he with rfl | rfl | rfl | rfl | rfl | rfl | rfl | rfl | rfl | rfl | rfl | rfl | rfl | rfl | rfl | rfl | rfl | rfl | rfl | rfl <;> first | rfl | cases hn
      case fin =>
       rintro ls a' w' ⟨A15,n15,c15,A18,n18,c18,m15,m18,g20,u21,⟨hsz',hdf,h3⟩,hS,hcl,_,hw⟩ hall
       obtain ⟨β',q1,q2,q3,q4⟩:=hw (hall 9 (by decide))
       obtain ⟨tm,df⟩:=a'
       simp only at hsz' hdf hS
       subst hdf
       obtain ⟨y0,y1,y2,y3,y4,y5,y6,y7,y8,y9,y10,y11,y12,y13,y14,y15,y16,y17,y18,y19,y20,y21,y22,y23,rfl⟩:=arr24 tm hsz'
       have z0 : y0 = .slice (some a) es.length c:=hS.base (k:=0) (by simp)
       have z1 : y1 = undef:=hS.base (k:=1) (by simp)
       have z2 : y2 = .slice none 0 0:=hS.base (k:=2) (by simp)
       have z4 : y4 = undef:=hS.base (k:=4) (by simp)
       have z6 : y6 = .slice (some a) es.length c:=hS.base (k:=6) (by simp)
       have z7 : y7 = .int .i64 es.length:=hS.base (k:=7) (by simp)
       have z8 : y8 = .int .i64 k:=hS.base (k:=8) (by simp)
       have z23 : y23 = undef:=hS.base (k:=23) (by simp)
       have z3 : y3 = u21:=hS.get (k:=3) (j:=10) (by simp) (hall 10 (by decide))
       subst z0 z1 z2 z4 z6 z7 z8 z23 z3
       have hwk : wrap64 ((k : Int) + 1) = ((k + 1 : Nat) : Int):=wrap_succ64 hlt hl
       gi_wp2
       rw [hwk]
       exact ⟨⟨k + 1,_,β',hlt,rfl,q2,q1,q3,q4⟩,meas_lt hlt⟩
      case step =>
       rintro ls a' w' K i o ⟨A15,n15,c15,A18,n18,c18,m15,m18,g20,u21,⟨hsz',hdf,h3⟩,hS,⟨hc3,hc6,hc7,hc8,hc9,hc10⟩,hw0,hw1⟩ ho hls hall hK
       have f5:=hS.base (k:=5) (v := .pointer (some ⟨wr.heap.size,0,none⟩)) (by simp)
       have no : ∀ j j',(ls j' = true → ls j = true) → ls j = false → ls j' = false:=fun j j' h hf => by
        cases hh : ls j' with
        | false => rfl
        | true => rw [h hh] at hf;cases hf
       have h63 : ls 6 = true → ls 3 = true:=fun h => (hc6 h).1
       have h65 : ls 6 = true → ls 5 = true:=fun h => (hc6 h).2
       have h96 : ls 9 = true → ls 6 = true:=fun h => hc7 (hc8 (hc9 h).1)
       have h86 : ls 8 = true → ls 6 = true:=fun h => hc7 (hc8 h)
       have hcell : ls 9 = false → w'.cell? ⟨wr.heap.size,0,none⟩ = some (.slice kA e.k.length kc) ∧ w'.cell? ⟨wr.heap.size,1,none⟩ = some (.slice vA e.v.length vc):=fun h => by
        have hb:=(hw0 h).1
        have hh : w'.heap[wr.heap.size]? = some (.cells #[.slice kA e.k.length kc,.slice vA e.v.length vc] 33 (0,0)):=(hb.block _ (by show wr.heap.size < wA.heap.size;omega)).trans heb
        simp only [World.cell?,hh]
        exact ⟨rfl,rfl⟩
       match i,ho with
       | 0,ho =>
         obtain rfl:=Option.some.inj ho
         have e10:=no 0 10 (fun h => (hc9 (hc10 h)).2) hls
         have f3:=h3 e10
         go_simp
         exact hK _ _ ⟨A15,n15,c15,A18,n18,c18,m15,m18,g20,u21,⟨by simpa using hsz',(by first | rfl | exact hdf),fun h => (getD_set (by decide)).trans (h3 h)⟩,hS.put (d:=12) (by omega) (by simp),⟨hc3,hc6,hc7,hc8,fun h => ⟨(hc9 h).1,rfl⟩,hc10⟩,hw0,hw1⟩
       | 1,ho =>
         obtain rfl:=Option.some.inj ho
         go_simp
         exact hK _ _ ⟨A15,n15,c15,A18,n18,c18,m15,m18,g20,u21,⟨by simpa using hsz',(by first | rfl | exact hdf),fun h => (getD_set (by decide)).trans (h3 h)⟩,hS.put (d:=13) (by omega) (by simp),⟨hc3,hc6,hc7,hc8,hc9,hc10⟩,hw0,hw1⟩
       | 2,ho =>
         obtain rfl:=Option.some.inj ho
         have e9:=no 2 9 (fun h => hc3 (h63 (h96 h))) hls
         have f13:=hS.get (k:=13) (j:=1) (v := .pointer (some ⟨wr.heap.size,0,none⟩)) (by simp) (hall ⟨1,.data⟩ (by simp) rfl)
         have hcc:=(hcell e9).1
         go_simp
         exact hK _ _ ⟨A15,n15,c15,A18,n18,c18,m15,m18,g20,u21,⟨by simpa using hsz',(by first | rfl | exact hdf),fun h => (getD_set (by decide)).trans (h3 h)⟩,hS.put (d:=14) (by omega) (by simp),⟨fun _ => rfl,hc6,hc7,hc8,hc9,hc10⟩,hw0,hw1⟩
       | 3,ho =>
         obtain rfl:=Option.some.inj ho
         have e6:=no 3 6 h63 hls
         have e7:=no 6 7 hc7 e6
         have e8:=no 7 8 hc8 e7
         have e9:=no 6 9 h96 e6
         have f14:=hS.get (k:=14) (j:=2) (v := .slice kA e.k.length kc) (by simp) (hall ⟨2,.data⟩ (by simp) rfl)
         obtain ⟨hbw,_,_,_⟩:=hw0 e9
         have hbW : Below W.heap.size W w':=hBA.drew.trans (hbw.mono hBA.drew.size)
         go_simp
         refine ⟨trivial,(callsIn_wide.2 (clone_own e.k (hs e (List.mem_of_getElem? he)).1 (or_lt hO hbW.size) (rep_in r0 hbW))).mono ?_⟩
         rintro e' W3 ⟨u,m,rfl,hfr,hm,hb3⟩
         obtain ⟨A,n,c',rfl⟩:=frep_slice hfr
         exact hK _ _ ⟨A,n,c',A18,n18,c18,m,m18,g20,u21,⟨by simpa using hsz',(by first | rfl | exact hdf),fun h => (getD_set (by decide)).trans (h3 h)⟩,(hS.swap (by simp [hls,e7])).put (d:=15) (by omega) (by simp),⟨fun _ => hall ⟨2,.data⟩ (by simp) rfl,fun h => ⟨rfl,(hc6 h).2⟩,hc7,hc8,hc9,hc10⟩,
          fun _ => ⟨hbw.trans (hb3.mono hbw.size),fun _ => ⟨hfr,fun g hg => ⟨Nat.le_trans hbw.size (hm g hg).1,(hm g hg).2⟩⟩,fun h => absurd (show ls 6 = true from h) (by rw [e6];simp),fun h => absurd (show ls 8 = true from h) (by rw [e8];simp)⟩,fun h => absurd (show ls 9 = true from h) (by rw [e9];simp)⟩
       | 4,ho =>
         obtain rfl:=Option.some.inj ho
         go_simp
         exact hK _ _ ⟨A15,n15,c15,A18,n18,c18,m15,m18,g20,u21,⟨by simpa using hsz',(by first | rfl | exact hdf),fun h => (getD_set (by decide)).trans (h3 h)⟩,hS.put (d:=16) (by omega) (by simp),⟨hc3,hc6,hc7,hc8,hc9,hc10⟩,hw0,hw1⟩
       | 5,ho =>
         obtain rfl:=Option.some.inj ho
         have e9:=no 5 9 (fun h => h65 (h96 h)) hls
         have f16:=hS.get (k:=16) (j:=4) (v := .pointer (some ⟨wr.heap.size,1,none⟩)) (by simp) (hall ⟨4,.data⟩ (by simp) rfl)
         have hcc:=(hcell e9).2
         go_simp
         exact hK _ _ ⟨A15,n15,c15,A18,n18,c18,m15,m18,g20,u21,⟨by simpa using hsz',(by first | rfl | exact hdf),fun h => (getD_set (by decide)).trans (h3 h)⟩,hS.put (d:=17) (by omega) (by simp),⟨hc3,fun h => ⟨(hc6 h).1,rfl⟩,hc7,hc8,hc9,hc10⟩,hw0,hw1⟩
       | 6,ho =>
         obtain rfl:=Option.some.inj ho
         have e7:=no 6 7 hc7 hls
         have e8:=no 7 8 hc8 e7
         have e9:=no 6 9 h96 hls
         have e3:=hall ⟨3,.chain⟩ (by simp) rfl
         simp only at e3
         have f17:=hS.get (k:=17) (j:=5) (v := .slice vA e.v.length vc) (by simp) (hall ⟨5,.data⟩ (by simp) rfl)
         obtain ⟨hbw,hq3,_,_⟩:=hw0 e9
         obtain ⟨hfr1,hm1⟩:=hq3 e3
         have hbW : Below W.heap.size W w':=hBA.drew.trans (hbw.mono hBA.drew.size)
         go_simp
         refine ⟨trivial,(callsIn_wide.2 (clone_own e.v (hs e (List.mem_of_getElem? he)).2 (or_lt hO hbW.size) (rep_in r1 hbW))).mono ?_⟩
         rintro e' W3 ⟨u,m,rfl,hfr,hm,hb3⟩
         obtain ⟨A,n,c',rfl⟩:=frep_slice hfr
         exact hK _ _ ⟨A15,n15,c15,A,n,c',m15,m,g20,u21,⟨by simpa using hsz',(by first | rfl | exact hdf),fun h => (getD_set (by decide)).trans (h3 h)⟩,(hS.swap (by simp [hls,e7])).put (d:=18) (by omega) (by simp),⟨hc3,fun _ => ⟨e3,hall ⟨5,.data⟩ (by simp) rfl⟩,fun _ => rfl,hc8,hc9,hc10⟩,
          fun _ => ⟨hbw.trans (hb3.mono hbw.size),fun _ => ⟨hfr1.still fun g hg => hb3.block g (hm1 g hg).2,fun g hg => ⟨(hm1 g hg).1,Nat.lt_of_lt_of_le (hm1 g hg).2 hb3.size⟩⟩,fun _ => ⟨hfr,fun g hg => ⟨Nat.le_trans hbw.size (hm g hg).1,(hm g hg).2⟩,fun g h1 h2 => by have:=(hm1 g h1).2;have:=(hm g h2).1;omega⟩,fun h => absurd (show ls 8 = true from h) (by rw [e8];simp)⟩,fun h => absurd (show ls 9 = true from h) (by rw [e9];simp)⟩
       | 7,ho =>
         obtain rfl:=Option.some.inj ho
         have f15:=hS.get (k:=15) (j:=3) (v := .slice A15 n15 c15) (by simp) (hall ⟨3,.data⟩ (by simp) rfl)
         have f18:=hS.get (k:=18) (j:=6) (v := .slice A18 n18 c18) (by simp) (hall ⟨6,.data⟩ (by simp) rfl)
         have e6:=hall ⟨6,.data⟩ (by simp) rfl
         simp only at e6
         have h15 : a'.tmps[15]?.getD undef = .slice A15 n15 c15:=by simpa using f15
         have h18 : a'.tmps[18]?.getD undef = .slice A18 n18 c18:=by simpa using f18
         have kz : Keep (a'.tmps.size = 24):=⟨hsz'⟩
         clear hsz'
         go_simp
         have hsz':=kz.out
         exact hK _ _ ⟨A15,n15,c15,A18,n18,c18,m15,m18,g20,u21,⟨by simpa using hsz',(by first | rfl | exact hdf),fun h => (getD_set (by decide)).trans (h3 h)⟩,hS.put (d:=19) (by omega) (by simp),⟨hc3,hc6,fun _ => e6,fun _ => rfl,hc9,hc10⟩,hw0,hw1⟩
       | 8,ho =>
         obtain rfl:=Option.some.inj ho
         have f19:=hS.get (k:=19) (j:=7) (v := .agg #[.slice A15 n15 c15,.slice A18 n18 c18]) (by simp) (hall ⟨7,.data⟩ (by simp) rfl)
         have e7:=hall ⟨7,.data⟩ (by simp) rfl
         simp only at e7
         have e9:=no 8 9 (fun h => (hc9 h).1) hls
         obtain ⟨hbw,hq3,hq6,_⟩:=hw0 e9
         have h19 : a'.tmps[19]?.getD undef = .agg #[.slice A15 n15 c15,.slice A18 n18 c18]:=by simpa using f19
         have kz : Keep (a'.tmps.size = 24):=⟨hsz'⟩
         clear hsz'
         go_simp
         have hsz':=kz.out
         exact hK _ _ ⟨A15,n15,c15,A18,n18,c18,m15,m18,w'.heap.size,u21,⟨by simpa using hsz',(by first | rfl | exact hdf),fun h => (getD_set (by decide)).trans (h3 h)⟩,(hS.swap (by simp [hls])).put (d:=20) (by omega) (by simp),⟨hc3,hc6,hc7,fun _ => e7,fun h => ⟨rfl,(hc9 h).2⟩,hc10⟩,
          fun _ => ⟨hbw.alloc hbw.size _,fun h => ⟨(hq3 h).1.still fun g hg => Below.heap_alloc _ _ _ ((hq3 h).2 g hg).2,fun g hg => ⟨((hq3 h).2 g hg).1,Nat.lt_of_lt_of_le ((hq3 h).2 g hg).2 (by simp)⟩⟩,fun h => ⟨(hq6 h).1.still fun g hg => Below.heap_alloc _ _ _ ((hq6 h).2.1 g hg).2,fun g hg => ⟨((hq6 h).2.1 g hg).1,Nat.lt_of_lt_of_le ((hq6 h).2.1 g hg).2 (by simp)⟩,(hq6 h).2.2⟩,fun _ => World.alloc_heap_new w' _⟩,fun h => absurd (show ls 9 = true from h) (by rw [e9];simp)⟩
       | 9,ho =>
         obtain rfl:=Option.some.inj ho
         have f12:=hS.get (k:=12) (j:=0) (v:=u3) (by simp) (hall ⟨0,.data⟩ (by simp) rfl)
         have f20:=hS.get (k:=20) (j:=8) (v := .slice (some ⟨g20,0,none⟩) 1 1) (by simp) (hall ⟨8,.data⟩ (by simp) rfl)
         have e8:=hall ⟨8,.data⟩ (by simp) rfl
         have e0:=hall ⟨0,.data⟩ (by simp) rfl
         simp only at e8 e0
         have e6:=h86 e8
         have e10:=no 9 10 hc10 hls
         obtain ⟨hbw,hq3,hq6,hq8⟩:=hw0 hls
         obtain ⟨hfr1,hm1⟩:=hq3 (h63 e6)
         obtain ⟨hfr2,hm2,hd12⟩:=hq6 e6
         have hg20:=hq8 e8
         have hsz0:=hbw.size
         have hdz : wA.drew.heap.size = wr.heap.size + 1:=hsA
         have hWA:=hBA.size
         have hbW : Below W.heap.size W w':=hBA.drew.trans (hbw.mono hBA.drew.size)
         have hlt2 : ∀ g,u3.ownBlock = some g → g < wA.drew.heap.size:=fun g hg => (hrowA.lt g hg).2
         have hrow3 : w'.ownsRow W.heap.size 33 2 u3 k xs:=by
          obtain ⟨hlx,(hh | ⟨g,cap,cur,rfl,hbg,hgg,hr⟩)⟩:=hrowA
          · exact ⟨hlx,.inl hh⟩
          · exact ⟨hlx,.inr ⟨g,cap,cur,rfl,hbg,(hbw.block g (hlt2 g rfl)).trans hgg,hr⟩⟩
         have hP3 : PartsAt w' W.heap.size (partsE (es.take k)) xs β := hPA.move hsz0 fun j g hg => hbw.block g (hPA.ge j g hg).2
         refine step_append_fresh w' (.tmp 12) (.tmp 20) 27 rfl W.heap.size 33 i0 (.agg #[.slice none 0 0,.slice none 0 0]) 2 48 w27 hi0 hz0 hz1 hz2 rfl (by decide) u3 k xs f12 hrow3 ⟨g20,0,none⟩ 1 1 [.slice A15 n15 c15,.slice A18 n18 c18] f20 rfl (fun j x hx => ?_) (by simp [Value.oneCell']) (by decide) (room_1 hlt hl) (room_2 hlt hl) (by omega) ?_
         · match j with
           | 0 => cases hx;rw [addr_add];simp only [World.cell?,hg20];rfl
           | 1 => cases hx;rw [addr_add];simp only [World.cell?,hg20];rfl
           | j + 2 => simp at hx
         intro v' w4 hown' hgrow hfresh _
         have hnb : ∀ g,g < w'.heap.size → u3.ownBlock ≠ some g → w4.heap[g]? = w'.heap[g]?:=fun g h1 h2 => hgrow.block g h1 fun q => h2 q.symm
         have hP4 : PartsAt w4 W.heap.size (partsE (es.take k)) xs β := hP3.move hgrow.size fun j g hg => hnb g (hP3.ge j g hg).2 (hne j g hg)
         have hu3 : ∀ g,wA.drew.heap.size ≤ g → u3.ownBlock ≠ some g:=fun g hg q => by have:=hlt2 g q;omega
         have hT : PartsAt w4 wA.drew.heap.size [.own none (bb e.k) [],.own none (bb e.v) []] [.slice A15 n15 c15,.slice A18 n18 c18] (fun j => if j = 0 then m15 else if j = 1 then m18 else none) :=
          two_parts (hfr1.still fun g hg => hnb g (hm1 g hg).2 (hu3 g (hm1 g hg).1)) (hfr2.still fun g hg => hnb g (hm2 g hg).2 (hu3 g (hm2 g hg).1)) (fun g hg => ⟨(hm1 g hg).1,Nat.lt_of_lt_of_le (hm1 g hg).2 hgrow.size⟩) (fun g hg => ⟨(hm2 g hg).1,Nat.lt_of_lt_of_le (hm2 g hg).2 hgrow.size⟩) hd12
         have hxl : xs.length = (partsE (es.take k)).length:=by rw [hrow3.1,partsE_len,List.length_take];omega
         have hPP:=hP4.append hT hxl (by omega) (fun j g hg => (hPA.ge j g hg).2)
         rw [← partsE_take he] at hPP
         refine hK _ _ ⟨A15,n15,c15,A18,n18,c18,m15,m18,g20,v',⟨by show (a'.tmps.setIfInBounds 21 v').size = 24;simpa using hsz',(by first | rfl | exact hdf),fun h => (getD_set (by decide)).trans (h3 h)⟩,(hS.swap (by simp [hls,e10])).put (d:=21) (by omega) (by simp),⟨hc3,hc6,hc7,hc8,fun _ => ⟨e8,e0⟩,fun _ => rfl⟩,fun h => Bool.noConfusion h,fun _ => ⟨_,hown',hbW.grown hgrow hbW.size (fun g hg => (hrow3.lt g hg).1),hPP,fun j g hg q => ?_⟩⟩
         by_cases h1 : j < (partsE (es.take k)).length
         · simp only [h1,if_true] at hg
           rcases hfresh with hf | hf
           · exact hne j g hg (hf ▸ q)
           · rw [hf] at q;cases q;have:=(hP3.ge j _ hg).2;omega
         · simp only [h1,if_false] at hg
           have hge:=hT.ge _ g hg
           rcases hfresh with hf | hf
           · exact hu3 g hge.1 (hf ▸ q)
           · rw [hf] at q
             cases q
             by_cases hj0 : j - (partsE (es.take k)).length = 0
             · simp only [hj0,if_true] at hg;have:=(hm1 _ hg).2;omega
             · by_cases hj1 : j - (partsE (es.take k)).length = 1
               · simp only [hj0,hj1,if_true,if_false] at hg;have:=(hm2 _ hg).2;omega
               · simp only [hj0,hj1,if_false] at hg;cases hg
       | 10,ho =>
         obtain rfl:=Option.some.inj ho
         have e9:=hall ⟨9,.data⟩ (by simp) rfl
         simp only at e9
         have f21:=hS.get (k:=21) (j:=9) (v:=u21) (by simp) e9
         go_simp
         exact hK _ _ ⟨A15,n15,c15,A18,n18,c18,m15,m18,g20,u21,⟨by simpa using hsz',(by first | rfl | exact hdf),fun h => Bool.noConfusion h⟩,hS.put (d:=3) (by omega) (by simp),⟨hc3,hc6,hc7,hc8,hc9,fun _ => e9⟩,hw0,hw1⟩
       | k + 11,ho => simp at ho
  · have hke : k = es.length:=by omega
    subst hke
    rw [List.take_length] at hP
    gi_wp2
    go_ret
    exact ⟨_,_,_,rfl,hB,hrow,hP⟩
end Go.Proofs.Ytnieankaikhmnaa

