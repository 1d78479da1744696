/- An evaluator of the model's code over pure data, and why it is right: part 6. -/
import Derived.Test.YtnieankaikhmnaaEve
import Derived.Scope
import Derived.ChangeArms
import Derived.ChangeBook
import Derived.ChangeStays
import Derived.Lib.Strings
import Derived.Lib.Bytealg
import Derived.Below
import Derived.Laws.AppendOwn
import Derived.Lib.BytesEntry
import Derived.Shelf.Bytes.SlCountOne

set_option linter.unusedVariables false

set_option linter.unusedSimpArgs false

set_option linter.unusedSectionVars false

namespace Go.Ev
section
variable {C : Ctx} {rec : Rec} {ops : Array Oper} {w0 : World} {B : Nat → Prop} {N : Nat} {Oc K : Nat → Prop} {t0 : Nat → Value} {Q : Exit → Act → World → Prop}
theorem list_wp (hN : namesOk C.P = true) (hOc : ∀ k,Oc k → k < w0.heap.size) (hrec : ∀ g os rr,rec g os = some rr → CallSpec C.P g os rr.1 rr.2) :
 ∀ {l : List Oper} {st st' : Slots} {fs : List Foot} {w : World} {act : Act},Run C rec ops l st st' fs → (∀ o ∈ l,∀ d,o.dst = some d → d < N ∧ ¬ K d) → Fr w0 B N Oc K t0 w st act → (∀ a w',Fr w0 B N Oc K t0 w' st' a → Q .normal a w') → wpList C.P ops Q l act w
 | [],_,_,_,w,act,.nil _,_,h,hQ => hQ _ _ h
 | o :: l,_,_,_,w,act,.cons _ _ st st1 st2 f fs h1 hr,hd,h,hQ => by
   unfold wpList
   exact step_wp (next:=wpList C.P ops Q l) hN hOc hrec h (hd o (by simp)) h1 fun a w' hf => list_wp hN hOc hrec hr (fun p hp => hd p (by simp [hp])) hf hQ
theorem Fr.drew {w : World} {st : Slots} {act : Act} (h : Fr w0 B N Oc K t0 w st act) : Fr w0 B N Oc K t0 { w with drawn:=w.drawn + 1 } st act:=by
 obtain ⟨blk,h1,h2⟩:=h.ex
 exact ⟨⟨blk,h1.world (w':={ w with drawn:=w.drawn + 1 }) (Nat.le_refl _) (fun _ _ _ => rfl) (fun _ _ q => q),h2⟩,h.defers,h.size,⟨h.grow.os,h.grow.tape,h.grow.output,h.grow.size,h.grow.same⟩,h.kept⟩
structure Rest (ops : Array Oper) (listed : Array Bool) (items : List Item) : Prop where
 sorted : (items.map (·.i)).Pairwise (· < ·)
 mem : ∀ i,listed.getD i true = false ↔ i ∈ items.map (·.i)
 closed : ∀ k,listed.getD k false = true → ∀ i,Nat.testBit ((masks ops.toList []).getD k 0) i = true → listed.getD i false = true
 apart : ∀ (p q : Nat) (x y : Item),p < q → items[p]? = some x → items[q]? = some y → Nat.testBit ((masks ops.toList []).getD y.i 0) x.i = true ∨ x.f.apart y.f = true
 size : listed.size = ops.size
theorem getD_two {listed : Array Bool} {i : Nat} (h : i < listed.size) : listed.getD i true = listed.getD i false:=by
 simp [h]
theorem any_wp (hN : namesOk C.P = true) (hOc : ∀ k,Oc k → k < w0.heap.size) (hrec : ∀ g os rr,rec g os = some rr → CallSpec C.P g os rr.1 rr.2) (hback : edgesBack ops.toList 0 = true) (hd : ∀ o ∈ ops.toList,∀ d,o.dst = some d → d < N ∧ ¬ K d) {stN : Slots}
 (hQ : ∀ a w',Fr w0 B N Oc K t0 w' stN a → Q .normal a w') : ∀ (fuel : Nat) (listed : Array Bool) (items : List Item) (st : Slots) (w : World) (act : Act),items.length = fuel → LRun C rec ops items st stN → Rest ops listed items → Fr w0 B N Oc K t0 w st act →
   wpAny C.P .any ops Q fuel listed act w
 | 0,listed,items,st,w,act,hl,hr,hrest,h => by
   have : items = []:=List.eq_nil_of_length_eq_zero hl
   subst this
   cases hr with
   | nil _ _ hs =>
   refine ⟨?_,hQ _ _ (h.same hs.symm)⟩
   rw [List.eq_nil_iff_forall_not_mem]
   intro j hj
   have:=(hrest.mem j).1 (mem_ready.1 hj).1
   simp at this
 | fuel + 1,listed,items,st,w,act,hl,hr,hrest,h => by
   refine ⟨fun hnil => ?_,fun i hi => ?_⟩
   · -- the first that is left is ready
     exfalso
     cases items with
     | nil => simp at hl
     | cons x l =>
       cases hr with
       | cons _ _ _ _ ho hx hr =>
       have hun : listed.getD x.i true = false:=(hrest.mem x.i).2 (by simp)
       have : x.i ∈ Region.ready .any ops listed:=by
        refine mem_ready.2 ⟨hun,x.o,ho,fun e he hb => ?_⟩
        have hlt:=edgesBack_spec hback x.i x.o (by simpa using ho) e he hb
        rw [Nat.zero_add] at hlt
        have hxi : x.i < ops.size:=(Array.getElem?_eq_some_iff.1 ho).1
        have hls : e.on < listed.size:=by rw [hrest.size];omega
        cases hle : listed.getD e.on false with
        | true => rfl
        | false =>
          exfalso
          rw [← getD_two hls] at hle
          have hm:=(hrest.mem e.on).1 hle
          simp only [List.map_cons,List.mem_cons] at hm
          rcases hm with hm | hm
          · omega
          · have hs:=hrest.sorted
            simp only [List.map_cons,List.pairwise_cons] at hs
            have:=hs.1 _ hm
            omega
       rw [hnil] at this
       cases this
   · -- one that is ready is carried out
     obtain ⟨hun,o,ho,hall⟩:=mem_ready.1 hi
     have hmem:=(hrest.mem i).1 hun
     obtain ⟨x,hx,hxi⟩:=List.mem_map.1 hmem
     obtain ⟨pre,post,rfl⟩:=List.append_of_mem hx
     have hap : ∀ y ∈ pre,y.f.apart x.f = true:=by
      intro y hy
      obtain ⟨p,hp,rfl⟩:=List.mem_iff_getElem.1 hy
      have h1 : (pre ++ x :: post)[p]? = some pre[p]:=by rw [List.getElem?_append_left hp];exact List.getElem?_eq_getElem hp
      have h2 : (pre ++ x :: post)[pre.length]? = some x:=by rw [List.getElem?_append_right (Nat.le_refl _)];simp
      rcases hrest.apart p pre.length _ _ hp h1 h2 with hb | hb
      · exfalso
        rw [hxi] at hb
        have hlst:=mask_listed hrest.closed hi _ hb
        have hin : listed.getD pre[p].i true = false:=(hrest.mem _).2 (by simp;left;exact ⟨pre[p],hy,rfl⟩)
        have : pre[p].i < listed.size:=by
         rcases Nat.lt_or_ge pre[p].i listed.size with h' | h'
         · exact h'
         · simp [Array.getElem?_eq_none h'] at hlst
        rw [getD_two this,hlst] at hin
        cases hin
      · exact hb
     have hfront:=hr.front hap
     cases hfront with
     | cons _ _ _ _ ho2 hloc hr2 =>
     have hoo : o = x.o:=by rw [hxi,ho] at ho2;exact Option.some.inj ho2
     subst hoo
     unfold wpOp
     simp only [ho]
     have hstep:=hloc.again st (fun _ _ => rfl)
     refine step_wp (next:=wpAny C.P .any ops Q fuel (listed.setIfInBounds i true)) hN hOc hrec h (hd x.o (by have:=Array.mem_of_getElem? ho;exact Array.mem_toList_iff.2 this)) hstep fun a w' hf => ?_
     have hil : i < listed.size:=by
      rcases Nat.lt_or_ge i listed.size with h' | h'
      · exact h'
      · simp [Array.getElem?_eq_none h'] at hun
     have hidx : ∀ j : Nat,(listed.setIfInBounds i true).getD j true = if j = i then true else listed.getD j true:=by
      intro j
      by_cases hji : j = i
      · subst hji;simp [hil]
      · rw [if_neg hji,getD_set_ne true (Ne.symm hji)]
     have hidxf : ∀ j : Nat,(listed.setIfInBounds i true).getD j false = if j = i then true else listed.getD j false:=by
      intro j
      by_cases hji : j = i
      · subst hji;simp [hil]
      · rw [if_neg hji,getD_set_ne false (Ne.symm hji)]
     have hsort:=hrest.sorted
     rw [List.map_append,List.map_cons,List.pairwise_append] at hsort
     have hcons:=List.pairwise_cons.1 hsort.2.1
     refine any_wp hN hOc hrec hback hd hQ fuel (listed.setIfInBounds i true) (pre ++ post) _ w' a (by simp at hl ⊢;omega) hr2 ⟨?_,fun j => ?_,fun k hk q hq => ?_,fun p q y z hpq hy hz => ?_,by simp [hrest.size]⟩ hf
     · rw [List.map_append,List.pairwise_append]
       exact ⟨hsort.1,hcons.2,fun a ha b hb => hsort.2.2 a ha b (by simp [hb])⟩
     · rw [hidx]
       by_cases hji : j = i
       · subst hji
         simp only [if_true,Bool.true_eq_false,false_iff]
         rw [List.map_append,List.mem_append]
         rintro (hm | hm)
         · have:=hsort.2.2 _ hm x.i (by simp)
           omega
         · have:=hcons.1 _ hm
           omega
       · rw [if_neg hji,hrest.mem j]
         simp only [List.map_append,List.map_cons,List.mem_append,List.mem_cons]
         rw [hxi]
         constructor
         · rintro (hm | hm | hm)
           · exact .inl hm
           · exact absurd hm hji
           · exact .inr hm
         · rintro (hm | hm)
           · exact .inl hm
           · exact .inr (.inr hm)
     · rw [hidxf] at hk ⊢
       split
       · rfl
       · split at hk
         · rename_i hki
           subst hki
           exact mask_listed hrest.closed hi q hq
         · exact hrest.closed k hk q hq
     · have back : ∀ (q : Nat) (y : Item),(pre ++ post)[q]? = some y → ∃ q',(pre ++ x :: post)[q']? = some y ∧ (q < pre.length → q' = q) ∧ (¬ q < pre.length → q' = q + 1):=by
        intro q y hy
        by_cases hq : q < pre.length
        · rw [List.getElem?_append_left hq] at hy
          exact ⟨q,by rw [List.getElem?_append_left hq];exact hy,fun _ => rfl,fun h' => absurd hq h'⟩
        · rw [List.getElem?_append_right (by omega)] at hy
          refine ⟨q + 1,?_,fun h' => absurd h' hq,fun _ => rfl⟩
          rw [List.getElem?_append_right (by omega),show q + 1 - pre.length = (q - pre.length) + 1 by omega,List.getElem?_cons_succ]
          exact hy
       obtain ⟨p',h1,h2,h3⟩:=back p y hy
       obtain ⟨q',g1,g2,g3⟩:=back q z hz
       refine hrest.apart p' q' y z ?_ h1 g1
       by_cases c1 : p < pre.length <;> by_cases c2 : q < pre.length
       · rw [h2 c1,g2 c2];exact hpq
       · rw [h2 c1,g3 c2];omega
       · omega
       · rw [h3 c1,g3 c2];omega
theorem region_wp (hN : namesOk C.P = true) (hOc : ∀ k,Oc k → k < w0.heap.size) (hrec : ∀ g os rr,rec g os = some rr → CallSpec C.P g os rr.1 rr.2) {id : Nat} {draw : Bool} {st st' : Slots} {fs : List Foot} {w : World} {act : Act}
 (hrun : Run C rec ops ops.toList st st' fs) (hdr : draw = true → C.P.follows .mixedOrders = true ∧ orderFree ops.toList fs = true) (hd : ∀ o ∈ ops.toList,∀ d,o.dst = some d → d < N ∧ ¬ K d) (h : Fr w0 B N Oc K t0 w st act)
 (hQ : ∀ a w',Fr w0 B N Oc K t0 w' st' a → Q .normal a w') : (Code.region id ops draw).wp C.P Q act w:=by
 cases draw with
 | false => exact wp_region_list (list_wp hN hOc hrec hrun hd h hQ)
 | true =>
   obtain ⟨hm,hof⟩:=hdr rfl
   simp only [orderFree,Bool.and_eq_true] at hof
   obtain ⟨⟨hback,hlive⟩,hpairs⟩:=hof
   obtain ⟨items,g1,g2,g3⟩:=run_items (n:=0) hrun (fun j => by simp) (fun f hf => List.all_eq_true.1 hlive f hf)
   have hlen : items.length = ops.size:=by
    have:=congrArg List.length g2
    simpa using this
   refine wp_region_any hm (any_wp hN hOc hrec hback hd hQ ops.size _ items st _ act hlen g1 ⟨?_,fun i => ?_,fun k hk i _ => ?_,fun p q x y hpq hx hy => ?_,by simp⟩ h.drew)
   · rw [g2];exact List.pairwise_lt_range'
   · rw [g2]
     simp only [List.mem_range'_1,Nat.zero_le,true_and,Nat.zero_add,Array.length_toList]
     by_cases hi : i < ops.size
     · simp [hi]
     · simp [hi]
   · by_cases hk' : k < ops.size
     · simp [hk'] at hk
     · simp [hk'] at hk
   · have hxi : x.i = p:=by
      have : (items.map (·.i))[p]? = some x.i:=by simp [hx]
      rw [g2] at this
      obtain ⟨h1,h2⟩:=List.getElem?_eq_some_iff.1 this
      simpa using h2.symm
     have hyi : y.i = q:=by
      have : (items.map (·.i))[q]? = some y.i:=by simp [hy]
      rw [g2] at this
      obtain ⟨h1,h2⟩:=List.getElem?_eq_some_iff.1 this
      simpa using h2.symm
     have hfx : fs[p]? = some x.f:=by rw [← g3];simp [hx]
     have hfy : fs[q]? = some y.f:=by rw [← g3];simp [hy]
     rw [hxi,hyi]
     exact allPairs_spec (done:=[]) (j:=0) rfl hpairs p q y.f x.f hpq (Nat.zero_le _) (by simpa using hfx) (by simpa using hfy)
end
end Go.Ev

namespace Go.Ev
section
variable {P : Program} {w : World} {act : Act}
abbrev tmOf (act : Act) : Nat → Value:=fun t => act.tmps.getD t Go.undef
def rvSem (tm : Nat → Value) : ResultVar → Sem Value
 | .tmp t => pure (tm t)
 | .cell a t => do loadVar t (← asAddr (tm a))
theorem result_pend {Oc : Nat → Prop} {st st' : Slots} {blk : Blk} {r : ResultVar} {o : OV} (h : SRel w Oc st (tmOf act) blk) (hr : resultOf P st r = some (o,st')) :
 ∃ u blk' pb,(rvSem (tmOf act) r).run P w = .ok u w ∧ Pend w Oc st' (tmOf act) blk' (.home o) u pb ∧ (∀ t c k,blk' t c = some k → blk t c = some k) ∧ (∀ c k,pb c = some k → blk.has k):=by
 have F : ∀ {x : Nat} {a : Arg},fetch P st 0 (.tmp x) = some a → ArgRep w (blk.off Oc) st (tmOf act) a (tmOf act x):=fun hf => fetch_rep h hf act (fun _ => rfl)
 cases r with
 | tmp t =>
   simp only [resultOf] at hr
   split at hr
   · cases hr
   · rename_i a ha
     have hA:=F ha
     have hrun : (rvSem (tmOf act) (.tmp t)).run P w = .ok (tmOf act t) w:=by simp [rvSem]
     split at hr
     · rename_i o' hsv
       cases hr
       refine ⟨tmOf act t,blk,fun _ => none,hrun,⟨h.world (Nat.le_refl _) (fun _ _ _ => rfl) (fun k _ q => ?_),fun _ _ _ q => (by cases q),fun _ _ q => (by cases q),?_⟩,fun _ _ _ q => q,fun _ _ q => (by cases q)⟩
       · rcases q with q | ⟨_,q⟩
         · exact q
         · cases q
       · have hrep:=hA.rep
         rw [hsv] at hrep
         exact hrep.move ⟨fun k _ hno => ⟨rfl,by
          rintro (q | q | ⟨_,q⟩)
          · exact hno (.inl q)
          · exact hno (.inr q)
          · cases q⟩,fun _ _ => rfl⟩ (fun s hs => by simp [SV.root] at hs)
     · split at hr
       · rename_i o' es ho ht
         cases hr
         obtain ⟨blk',pb,h1,h2,h3⟩:=take_rep h hA ho ht
         exact ⟨tmOf act t,blk',pb,hrun,h1,h2,h3⟩
       · cases hr
     · rename_i s h' hsv
       split at hr
       · rename_i s' sh xs sp hrt
         cases hr
         obtain ⟨hg,hroot⟩:=hA.root s' _ hrt
         rw [hsv] at hroot
         cases (Option.some.inj hroot : s = s')
         have hrep:=hA.rep
         rw [hsv] at hrep
         obtain ⟨v1,v2,z,hp,hv⟩:=hrep.2 _ _ _ _ hg rfl
         obtain ⟨bb,hf,hown⟩:=own_at h hg rfl hp
         have hz:=hp.top_eq
         have hO:=h.rep s
         rw [hg] at hO
         obtain ⟨hf0,hβ⟩:=(show ORep w (blk.off Oc) (.flat (.own sh xs sp)) (tmOf act s) (blk s none) (fun j => blk s (some j)) from hO).flat_inv
         have key:=SRel.edit (w':=w) (Oc':=fun k => Oc k ∨ ∃ c,blk s c = some k) h ⟨s,.dead,.all⟩ (tmOf act s) (fun _ => none) (Nat.le_refl _) (fun _ _ _ _ => rfl) (fun k _ x => x) (by simp) (by simp)
          (fun _ => rfl) (fun t ht hroot _ => by rw [get_on] at hroot;exact absurd hroot (cutAll_root _ _))
         rw [updN_self] at key
         have hsub : ∀ t c k,updN blk s (fun _ => none) t c = some k → blk t c = some k ∧ t ≠ s:=by
          intro t c k q
          by_cases ht : t = s
          · subst ht;rw [updN_same] at q;cases q
          · rw [updN_ne _ _ ht] at q;exact ⟨q,ht⟩
         have fin : ∀ m : Option Nat,(∀ k,m = some k → blk s none = some k) → FRep w (blk.off Oc) (.own sh (xs.take h') []) (tmOf act t) m →
          ∃ u blk' pb,(rvSem (tmOf act) (.tmp t)).run P w = .ok u w ∧ Pend w Oc (edits [⟨s,.dead,.all⟩] st) (tmOf act) blk' (.home (.flat (.own sh (xs.take h') []))) u pb ∧ (∀ t c k,blk' t c = some k → blk t c = some k) ∧ (∀ c k,pb c = some k → blk.has k):=by
          intro m hm hfr
          refine ⟨tmOf act t,updN blk s (fun _ => none),fun c => match c with | none => m | some _ => none,hrun,⟨key.world (Nat.le_refl _) (fun _ _ _ => rfl) (fun k _ q => ?_),fun c c' k q q' => ?_,fun c k q => ?_,?_⟩,fun t c k q => (hsub _ _ _ q).1,fun c k q => ?_⟩
          · rcases q with q | ⟨c,q⟩
            · exact .inl q
            · cases c with
              | none => exact .inr ⟨none,hm _ q⟩
              | some j => cases q
          · cases c <;> cases c' <;> first | rfl | (cases q;done) | (cases q';done)
          · cases c with
            | none => exact h.out _ _ _ (hm _ q)
            | some j => cases q
          · refine .flat _ _ _ (hfr.move ⟨fun k _ hno => ⟨rfl,fun q => hno ?_⟩,fun _ _ => rfl⟩)
            rcases q with ⟨t',c,q⟩ | q | ⟨c,q⟩
            · exact .inl ⟨t',c,(hsub _ _ _ q).1⟩
            · exact .inr q
            · cases c with
              | none => exact .inl ⟨s,none,hm _ q⟩
              | some j => cases q
          · cases c with
            | none => exact ⟨s,none,hm _ q⟩
            | some j => cases q
         have htl : (xs.take h').length = h':=by rw [List.length_take];omega
         rcases hv with ⟨b,q0,cap,c',q1,q2,q3,q4,q5⟩ | ⟨q1,A',c',q3,q4⟩
         · cases hf with
           | ownE =>
             have h0 : h' = 0:=by simpa using v2
             simp only [Value.slice.injEq] at q2
             have hc0 : c' = 0:=by omega
             rw [h0,hc0] at q3
             rw [h0] at fin ⊢
             refine fin none (fun _ e => by cases e) ?_
             rw [List.take_zero,q3]
             exact .ownE _ _
           | own _ _ _ b2 c2 cur ty' fr us how =>
             simp only [Value.slice.injEq,Option.some.injEq,Addr.mk.injEq] at q2
             obtain ⟨⟨rfl,_⟩,_,rfl⟩:=q2
             have hat : blk s none = some b2:=by
              obtain ⟨cc,hcc⟩ : ∃ cc,blk s cc = some b2:=hown b2 rfl
              cases cc with
              | none => exact hcc
              | some j => rw [hβ j] at hcc;cases hcc
             refine fin (some b2) (fun k e => by cases e;exact hat) ?_
             have hx : ∀ (i : Nat) (y : PV),(xs.take h')[i]? = some y → xs[i]? = some y:=by
              intro i y hi
              rw [List.getElem?_take] at hi
              split at hi
              · exact hi
              · cases hi
             have hown' : OwnAt w (blk.off Oc) sh (xs.take h') [] b2 c' cur ty' fr us :=
              { heap:=how.heap,thaw:=how.thaw
                size:=Nat.le_trans (Nat.mul_le_mul_right _ (by omega)) how.size
                len:=by rw [htl];omega
                fits:=fun i y hi => how.fits i y (hx i y hi)
                cell:=fun i y j d hi hd => how.cell i y j d (hx i y hi) hd
                at_:=fun i y j d hi hd => how.at_ i y j d (hx i y hi) hd
                rep:=fun i y j d hi hd => how.rep i y j d (hx i y hi) hd
                spare:=fun j y hj => by simp at hj
                capL:=by have:=how.capL;omega
                spL:=by simp only [List.length_nil,htl];omega }
             have:=FRep.own sh (xs.take h') [] b2 c' cur ty' fr us hown'
             rw [htl] at this
             rw [q3,Nat.zero_mul,Nat.sub_zero]
             exact this
         · subst q1 q4
           rw [List.take_zero] at fin ⊢
           refine fin none (fun _ e => by cases e) ?_
           rw [q3]
           exact .ownE _ _
       · cases hr
     · split at hr
       · rename_i v es hv hf
         cases hr
         obtain ⟨blk',h1,h2,h3,_,_⟩:=freeze_arg h (fun s o hrt => hA.root s o hrt) hv hf
         have hrep:=arg_pv h hA hv
         refine ⟨tmOf act t,blk',fun _ => none,hrun,⟨h1.world (Nat.le_refl _) (fun _ _ _ => rfl) (fun k _ q => ?_),fun _ _ _ q => (by cases q),fun _ _ q => (by cases q),?_⟩,h2,fun _ _ q => (by cases q)⟩
         · rcases q with q | ⟨_,q⟩
           · exact q
           · cases q
         · refine .flat _ _ _ (.val _ _ (hrep.move fun k _ hno => ⟨rfl,fun q => hno ?_⟩))
           rcases q with ⟨t',c,q⟩ | q | ⟨_,q⟩
           · exact ⟨.inl ⟨t',c,h2 _ _ _ q⟩,h3 _ _ _ q⟩
           · refine ⟨.inr q,fun ow => ?_⟩
             obtain ⟨s,c,_,q'⟩:=owns_root ow
             exact (h.out _ _ _ q').1 q
           · cases q
       · cases hr
 | cell x t =>
   simp only [resultOf] at hr
   split at hr
   · rename_i a sh ha hs
     have hA:=F ha
     split at hr
     · rename_i s s' cs hsv hrt
       obtain ⟨hg,hroot⟩:=hA.root s' _ hrt
       rw [hsv] at hroot
       cases (Option.some.inj hroot : s = s')
       have hrep:=hA.rep
       rw [hsv] at hrep
       have hu:=(hrep.2 _ hg).2.top_eq
       have hO:=h.rep s
       rw [hg] at hO
       obtain ⟨b,hb,hm,cur,e,fr,hheap,hth,hsz,hcells⟩:=ORep.box_inv hO
       have hck : ∀ (j : Nat) (f : FV),cs[j]? = some f → f.cellOk:=fun j f hj => ORep.cellOk hO (by simp) hj
       have key:=SRel.edit (w':=w) (Oc':=fun k => Oc k ∨ ∃ c,blk s c = some k) h ⟨s,.dead,.all⟩ (tmOf act s) (fun _ => none) (Nat.le_refl _) (fun _ _ _ _ => rfl) (fun k _ x => x) (by simp) (by simp)
        (fun _ => rfl) (fun t ht hroot _ => by rw [get_on] at hroot;exact absurd hroot (cutAll_root _ _))
       rw [updN_self] at key
       have hsub : ∀ t c k,updN blk s (fun _ => none) t c = some k → blk t c = some k ∧ t ≠ s:=by
        intro t c k q
        by_cases ht : t = s
        · subst ht;rw [updN_same] at q;cases q
        · rw [updN_ne _ _ ht] at q;exact ⟨q,ht⟩
       have hL : Loose w Oc (edits [⟨s,.dead,.all⟩] st) (tmOf act) (updN blk s fun _ => none) cs cur (fun j => blk s (some j)):=by
        refine ⟨key.world (Nat.le_refl _) (fun _ _ _ => rfl) (fun k _ q => ?_),fun j j' k q q' => Option.some.inj (h.inj _ _ _ _ _ q q').2,fun j k q => h.out _ _ _ q,hsz,hck,hcells.move ⟨fun k _ hno => ⟨rfl,fun q => hno ?_⟩,fun _ _ => rfl⟩⟩
        · rcases q with q | ⟨j,q⟩
          · exact .inl q
          · exact .inr ⟨some j,q⟩
        · rcases q with ⟨t',c,q⟩ | q | ⟨j,q⟩
          · exact .inl ⟨t',c,(hsub _ _ _ q).1⟩
          · exact .inr q
          · exact .inl ⟨s,some j,q⟩
       have haddr : (asAddr (tmOf act x)).run P w = .ok ⟨b,0,none⟩ w:=by
        rw [hu,hb];simp [asAddr]
       split at hr
       · split at hr
         · rename_i f
           cases hr
           obtain ⟨u,u1,u2⟩:=hcells.rep 0 f rfl
           have hc : w.cell? ⟨b,0,none⟩ = some u:=by rw [cell_at hheap];exact u1
           refine ⟨u,_,fun c => match c with | none => blk s (some 0) | some _ => none,?_,⟨hL.base.world (Nat.le_refl _) (fun _ _ _ => rfl) (fun k _ q => ?_),fun c c' k q q' => ?_,fun c k q => ?_,?_⟩,fun t c k q => (hsub _ _ _ q).1,fun c k q => ?_⟩
           · simp only [rvSem,Sem.run_bind,haddr,Result.andThen_ok]
             exact run_loadVar_one hs hc
           · rcases q with q | ⟨c,q⟩
             · exact .inl q
             · cases c with
               | none => exact .inr ⟨0,q⟩
               | some j => cases q
           · cases c <;> cases c' <;> first | rfl | (cases q;done) | (cases q';done)
           · cases c with
             | none => exact h.out _ _ _ q
             | some j => cases q
           · refine .flat _ _ _ (u2.move ⟨fun k _ hno => ⟨rfl,fun q => hno ?_⟩,fun _ _ => rfl⟩)
             rcases q with ⟨t',c,q⟩ | q | ⟨c,q⟩
             · exact .inl ⟨t',c,(hsub _ _ _ q).1⟩
             · exact .inr q
             · cases c with
               | none => exact .inl ⟨s,some 0,q⟩
               | some j => cases q
           · cases c with
             | none => exact ⟨s,some 0,q⟩
             | some j => cases q
         · cases hr
       · rename_i n
         split at hr
         · rename_i hn
           have hn:=Nat.eq_of_beq_eq_true hn
           cases hr
           have hp:=hL.agg
           refine ⟨.agg cur,_,_,?_,hp,fun t c k q => (hsub _ _ _ q).1,fun c k q => ?_⟩
           · simp only [rvSem,Sem.run_bind,haddr,Result.andThen_ok]
             have:=run_loadVar_agg (P:=P) (w:=w) hs (a:=⟨b,0,none⟩) (f:=fun q => cur.getD q Go.undef) (fun q hq => by
              rw [addr_add,Nat.zero_add,cell_at hheap]
              have : q < cur.size:=by omega
              simp [this])
             rw [this]
             have e1 : ((List.range n).map fun q => cur.getD q Go.undef).toArray = cur:=by
              apply Array.ext
              · simp;omega
              · intro i h1 h2
                simp [h2]
             rw [e1]
           · cases c with
             | none => cases q
             | some j => exact ⟨s,some j,q⟩
         · cases hr
     · cases hr
   · cases hr
structure Resulted (w : World) (Oc : Nat → Prop) (st : Slots) (tm : Nat → Value) (blk0 blk pbs : Blk) (rs : List OV) (vs : List Value) : Prop where
 frame : SRel w (fun k => Oc k ∨ pbs.has k) st tm blk
 sub : ∀ t c k,blk t c = some k → blk0 t c = some k
 from_ : ∀ i c k,pbs i c = some k → blk0.has k
 inj : ∀ i c i' c' k,pbs i c = some k → pbs i' c' = some k → i = i' ∧ c = c'
 rep : ∀ (i : Nat) (o : OV) (u : Value),rs[i]? = some o → vs[i]? = some u → ORep w (blk.off fun k => Oc k ∨ pbs.has k) o u (pbs i none) (fun j => pbs i (some j))
 len : vs.length = rs.length
 end_ : ∀ i,rs.length ≤ i → ∀ c,pbs i c = none
theorem results_rep : ∀ {rvs : List ResultVar} {st st' : Slots} {Oc : Nat → Prop} {blk : Blk} {rs : List OV},SRel w Oc st (tmOf act) blk → resultsOf P rvs st = some (rs,st') →
 ∃ vs blk' pbs,(rvs.mapM (rvSem (tmOf act))).run P w = .ok vs w ∧ Resulted w Oc st' (tmOf act) blk blk' pbs rs vs
 | [],st,st',Oc,blk,rs,h,hr => by
   simp only [resultsOf,Option.some.injEq,Prod.mk.injEq] at hr
   obtain ⟨rfl,rfl⟩:=hr
   refine ⟨[],blk,fun _ _ => none,by simp,⟨h.world (Nat.le_refl _) (fun _ _ _ => rfl) (fun k _ q => ?_),fun _ _ _ q => q,fun _ _ _ q => (by cases q),fun _ _ _ _ _ q => (by cases q),fun i o u q => (by simp at q),rfl,fun _ _ _ => rfl⟩⟩
   rcases q with q | ⟨_,_,q⟩
   · exact q
   · cases q
 | r :: rvs,st,st',Oc,blk,rs,h,hr => by
   simp only [resultsOf] at hr
   split at hr
   case h_2 => cases hr
   rename_i o st1 h1
   split at hr
   case h_2 => cases hr
   rename_i os st2 h2
   cases hr
   obtain ⟨u,blk1,pb,g1,g2,g3,g4⟩:=result_pend h h1
   obtain ⟨vs,blk2,pbs,m1,H⟩:=results_rep g2.base h2
   refine ⟨u :: vs,blk2,consBlk pb pbs,?_,⟨H.frame.world (Nat.le_refl _) (fun _ _ _ => rfl) (fun k _ q => ?_),fun t c k q => g3 _ _ _ (H.sub _ _ _ q),fun i c k q => ?_,fun i c i' c' k q q' => ?_,fun i o' u' q q' => ?_,by simp [H.len],fun i hi c => ?_⟩⟩
   · simp only [List.mapM_cons,Sem.run_bind,g1,Result.andThen_ok,m1]
     simp
   · rcases q with q | q
     · exact .inl (.inl q)
     · rcases (consBlk_has k).1 q with q | q
       · exact .inl (.inr q)
       · exact .inr q
   · cases i with
     | zero => exact g4 c k q
     | succ i =>
       obtain ⟨t,c',q'⟩:=H.from_ i c k q
       exact ⟨t,c',g3 _ _ _ q'⟩
   · have hno : ∀ c i c' k,pb c = some k → pbs i c' = some k → False:=by
      intro c i c' k h1 h2
      obtain ⟨t,c2,q⟩:=H.from_ i c' k h2
      exact (g2.base.out _ _ _ q).1 (.inr ⟨c,h1⟩)
     cases i with
     | zero =>
       cases i' with
       | zero => exact ⟨rfl,g2.inj _ _ _ q q'⟩
       | succ i' => exact (hno _ _ _ _ q q').elim
     | succ i =>
       cases i' with
       | zero => exact (hno _ _ _ _ q' q).elim
       | succ i' =>
         obtain ⟨e1,e2⟩:=H.inj _ _ _ _ _ q q'
         exact ⟨by rw [e1],e2⟩
   · have hO : ∀ k,(blk2.off fun k => Oc k ∨ (consBlk pb pbs).has k) k → (blk2.off fun k => (Oc k ∨ ∃ c,pb c = some k) ∨ pbs.has k) k:=by
      rintro k (q | q | q)
      · exact .inl q
      · exact .inr (.inl (.inl q))
      · rcases (consBlk_has k).1 q with q | q
        · exact .inr (.inl (.inr q))
        · exact .inr (.inr q)
     cases i with
     | zero =>
       simp at q q'
       subst q;subst q'
       have hrep : ORep w _ o u (pb none) (fun j => pb (some j)):=g2.rep
       refine hrep.move ⟨fun k _ hno => ⟨rfl,fun q => hno ?_⟩,fun _ _ => rfl⟩
       rcases hO k q with ⟨t,c,q⟩ | q | ⟨i,c,q⟩
       · exact .inl ⟨t,c,H.sub _ _ _ q⟩
       · exact .inr q
       · exact .inl (H.from_ i c k q)
     | succ i =>
       have:=H.rep i o' u' (by simpa using q) (by simpa using q')
       exact this.move ⟨fun k _ hno => ⟨rfl,fun q => hno (hO k q)⟩,fun _ _ => rfl⟩
   · cases i with
     | zero => simp at hi
     | succ i => exact H.end_ i (by simpa using hi) c
theorem results_run {fn : Func} {act : Act} {vs : List Value} (h : (fn.results.toList.mapM (rvSem (tmOf act))).run P w = .ok vs w) :
 (results fn act.tmps).run P w = .ok (if h : vs.length = 1 then vs[0] else .tuple vs.toArray) w:=by
 unfold results
 have e : (fn.results.mapM (rvSem (tmOf act)) : Sem (Array Value)) = List.toArray <$> fn.results.toList.mapM (rvSem (tmOf act)):=by
  have : fn.results = fn.results.toList.toArray:=by simp
  rw [this,List.mapM_toArray]
 have e2 : ∀ f : ResultVar → Sem Value,(∀ r,f r = rvSem (tmOf act) r) → (do let vs ← fn.results.mapM f;pure (if h : vs.size = 1 then vs[0] else .tuple vs) : Sem Value) = (do let vs ← List.toArray <$> fn.results.toList.mapM (rvSem (tmOf act));pure (if h : vs.size = 1 then vs[0] else .tuple vs)):=by
  intro f hf
  rw [funext hf,e]
 rw [e2 _ (fun r => by cases r <;> rfl)]
 rw [map_eq_pure_bind]
 simp only [Sem.run_bind,h,Result.andThen_ok,Sem.run_pure]
 simp
end
end Go.Ev

namespace Go.Ev
theorem least {p : Nat → Prop} (h : ∃ m,p m) : ∃ m,p m ∧ ∀ k,p k → m ≤ k:=by
 obtain ⟨m,hm⟩:=h
 induction m using Nat.strongRecOn with
 | _ m ih =>
   by_cases hk : ∃ k,k < m ∧ p k
   · obtain ⟨k,h1,h2⟩:=hk
     exact ih k h1 h2
   · refine ⟨m,hm,fun k hp => ?_⟩
     rcases Nat.lt_or_ge k m with h' | h'
     · exact absurd ⟨k,h',hp⟩ hk
     · exact h'
def exitOf : Ex → Exit
 | .normal => .normal
 | .exit id => .exit id
 | .ret => .ret
section
variable {C : Ctx} {rec : Rec} {n : Nat} {lv : List (List Nat)} {w0 : World} {B : Nat → Prop} {N : Nat} {Oc K : Nat → Prop} {t0 : Nat → Value}
theorem Fr.keep {w : World} {st : Slots} {act : Act} (h : Fr w0 B N Oc K t0 w st act) (id : Option Nat) : Fr w0 B N Oc K t0 w (keepAt lv id st) act:=by
 refine h.weaken fun t => ?_
 unfold keepAt
 split
 · split
   · rw [get_keep]
     split
     · exact .inl rfl
     · exact .inr rfl
   · exact .inl rfl
 · exact .inl rfl
theorem needB_some {α : Type} {c : Bool} {t : Option α} {x : α} (h : needB c t = some x) : c = true ∧ t = some x:=by
 cases c with
 | true => exact ⟨rfl,h⟩
 | false => cases h
theorem fixC_same {st : Slots} {c : Operand} {P : Program} {a : Arg} {v : Bool} (hf : fetch P st 0 c = some a) (hb : a.bool = some v) : Same (fixC st c v) st:=by
 cases c with
 | tmp t =>
   refine fix_same ?_
   have hsv : ∃ b,a.sv = .val (.bool b) ∧ b = v:=by
    unfold Arg.bool at hb
    split at hb
    · rename_i b hsv;cases hb;exact ⟨_,hsv,rfl⟩
    · cases hb
   obtain ⟨b,hsv,rfl⟩:=hsv
   unfold fetch at hf
   dsimp only at hf
   split at hf
   · cases hf
   · rename_i v hg;cases hf;rw [hg];exact hsv
   · rename_i sh hg;cases hf;cases hsv
   · rename_i o hn1 hn2 hg;cases hf;cases hsv
   · rename_i sh v hg;cases hf;cases hsv
   all_goals
    obtain ⟨o,_,rfl⟩:=rooted_eq hf
    cases hsv
 | _ => exact Same.refl _
theorem code_wp {α : Type} (hN : namesOk C.P = true) (hOc : ∀ k,Oc k → k < w0.heap.size) (hrec : ∀ g os rr,rec g os = some rr → CallSpec C.P g os rr.1 rr.2) {io : List Nat} (hK : ∀ t,K t → t ∈ io) :
 ∀ (c : Code) (st : Slots) (k : Ex → Slots → Option α) (x : α) (w : World) (act : Act) (Q : Exit → Act → World → Prop),evalK C rec n lv c st k = some x → dstsOk N io c = true → Fr w0 B N Oc K t0 w st act →
  (∀ e st' a w',k e st' = some x → Fr w0 B N Oc K t0 w' st' a → Q (exitOf e) a w') → c.wp C.P Q act w:=by
 intro c
 induction c with
 | skip => intro st k x w act Q h _ hf hQ;exact wp_skip (hQ .normal st act w h hf)
 | label l => intro st k x w act Q h _ hf hQ;exact wp_label (hQ .normal st act w h hf)
 | region id ops draw =>
   intro st k x w act Q h hd hf hQ
   simp only [evalK] at h
   obtain ⟨st',fs,h1,h2⟩:=stepsK_some h
   have hds : ∀ o ∈ ops.toList,∀ d,o.dst = some d → d < N ∧ ¬ K d:=by
    intro o ho d hdd
    simp only [dstsOk] at hd
    have:=List.all_eq_true.1 hd o ho
    rw [hdd] at this
    simp only [Bool.and_eq_true,Nat.blt_eq,Bool.not_eq_true'] at this
    refine ⟨this.1,fun hk => ?_⟩
    rw [(memN_iff d io).2 (hK d hk)] at this
    cases this.2
   cases draw with
   | false => exact region_wp hN hOc hrec h1 (fun e => by cases e) hds (hf.keep _) fun a w' hf' => hQ .normal st' a w' h2 hf'
   | true =>
     obtain ⟨h3,h4⟩:=needB_some h2
     obtain ⟨h5,h6⟩:=needB_some h4
     exact region_wp hN hOc hrec h1 (fun _ => ⟨h3,by simpa using h5⟩) hds (hf.keep _) fun a w' hf' => hQ .normal st' a w' h6 hf'
 | seq a b iha ihb =>
   intro st k x w act Q h hd hf hQ
   simp only [dstsOk,Bool.and_eq_true] at hd
   refine wp_seq (iha st _ x w act _ h hd.1 hf fun e st' a' w' he hf' => ?_)
   cases e with
   | normal => exact ihb st' k x w' a' Q he hd.2 hf' hQ
   | exit id => exact hQ (.exit id) st' a' w' he hf'
   | ret => exact hQ .ret st' a' w' he hf'
 | cond c a b iha ihb =>
   intro st k x w act Q h hd hf hQ
   simp only [dstsOk,Bool.and_eq_true] at hd
   simp only [evalK] at h
   split at h
   · rename_i g hg
     split at h
     · rename_i v hv
       obtain ⟨blk,hS,hB⟩:=hf.ex
       have hev:=(fetch_rep hS hg act (fun _ => rfl)).bool hv
       cases v with
       | true => exact wp_cond_true hev (iha _ k x w act Q (by simpa [ifB] using h) hd.1 (hf.same (fixC_same hg hv)) hQ)
       | false => exact wp_cond_false hev (ihb _ k x w act Q (by simpa [ifB] using h) hd.2 (hf.same (fixC_same hg hv)) hQ)
     · cases h
   · cases h
 | block id c ih =>
   intro st k x w act Q h hd hf hQ
   refine wp_block (ih st _ x w act _ h hd hf fun e st' a' w' he hf' => ?_)
   cases e with
   | normal => exact hQ .normal st' a' w' he hf'
   | ret => exact hQ .ret st' a' w' he hf'
   | exit j =>
     simp only [exitOf,Exit.inBlock]
     dsimp only at he
     by_cases hj : j = id
     · subst hj
       rw [if_pos rfl]
       simp only [Nat.beq_refl] at he
       exact hQ .normal st' a' w' he hf'
     · rw [if_neg hj]
       rw [nbeq hj] at he
       exact hQ (.exit j) st' a' w' he hf'
 | loop c ih =>
   intro st k x w act Q h hd hf hQ
   classical
   simp only [evalK] at h
   let Inv : Nat → Act → World → Prop:=fun m a w' => ∃ st',loopK (evalK C rec n lv c) (keepAt lv (firstRegion c)) k m st' = some x ∧ Fr w0 B N Oc K t0 w' st' a
   let μ : Act → World → Nat:=fun a w' => if h : ∃ m,Inv m a w' then Classical.choose (least h) else 0
   refine wp_loop (fun a w' => ∃ m,Inv m a w') μ ⟨n,_,h,hf.keep _⟩ fun a w' hI => ?_
   have hμ : μ a w' = Classical.choose (least hI):=by simp only [μ];rw [dif_pos hI]
   have hspec:=(Classical.choose_spec (least hI)).1
   rw [← hμ] at hspec
   generalize hm : μ a w' = m at hspec ⊢
   obtain ⟨st',h1,h2⟩:=hspec
   cases m with
   | zero => cases h1
   | succ m =>
     refine ih st' _ x w' a _ h1 hd h2 fun e st2 a2 w2 he hf2 => ?_
     cases e with
     | normal =>
       have hI2 : Inv m a2 w2:=⟨_,he,hf2.keep _⟩
       refine ⟨⟨m,hI2⟩,?_⟩
       have hex : ∃ m,Inv m a2 w2:=⟨m,hI2⟩
       have : μ a2 w2 = Classical.choose (least hex):=by simp only [μ];rw [dif_pos hex]
       rw [this]
       have:=(Classical.choose_spec (least hex)).2 m hI2
       omega
     | exit id => exact hQ (.exit id) st2 a2 w2 he hf2
     | ret => exact hQ .ret st2 a2 w2 he hf2
 | scope c ih =>
   intro st k x w act Q h hd hf hQ
   simp only [dstsOk] at hd
   refine wp_scope_straight (ih st k x w act _ h hd hf fun e st' a w' he hf' => ?_)
   have:=hQ e st' a w' he hf'
   cases e <;> exact this
 | exit id => intro st k x w act Q h _ hf hQ;exact wp_exit (hQ (.exit id) st act w h hf)
 | ret => intro st k x w act Q h _ hf hQ;exact wp_ret (hQ .ret st act w h hf)
 | rangeFunc f ps a b _ _ => intro st k x w act Q h;simp [evalK] at h
 | goto l => intro st k x w act Q h;simp [evalK] at h
 | refuse s => intro st k x w act Q h;simp [evalK] at h
end
def homeOnly : SV → SV
 | .home o => .home o
 | _ => .dead
theorem outs_get : ∀ {ms : List Md} {st : Slots} {n i : Nat} {o : OV},(outsOf st n ms)[i]? = some o → o ≠ .flat .gone → st.get (n + i) = .home o
 | [],_,_,_,_,h,_ => by simp [outsOf] at h
 | m :: ms,st,n,0,o,h,hne => by
   cases m with
   | io k =>
     simp only [outsOf,List.getElem?_cons_zero,Option.some.injEq] at h
     split at h
     · rename_i o' ho;subst h;simpa using ho
     · exact absurd h.symm hne
   | ro => simp only [outsOf,List.getElem?_cons_zero,Option.some.injEq] at h;exact absurd h.symm hne
   | tk => simp only [outsOf,List.getElem?_cons_zero,Option.some.injEq] at h;exact absurd h.symm hne
 | m :: ms,st,n,i + 1,o,h,hne => by
   have : (outsOf st (n + 1) ms)[i]? = some o:=by cases m <;> simpa [outsOf] using h
   have:=outs_get this hne
   rw [show n + (i + 1) = n + 1 + i by omega];exact this
theorem outs_io : ∀ {ms : List Md} {st : Slots} {n i : Nat} {o : OV},(outsOf st n ms)[i]? = some o → o ≠ .flat .gone → n + i ∈ ioSlots n ms ∧ i < ms.length
 | [],_,_,_,_,h,_ => by simp [outsOf] at h
 | m :: ms,st,n,0,o,h,hne => by
   cases m with
   | io k => exact ⟨by simp [ioSlots],by simp⟩
   | ro => simp only [outsOf,List.getElem?_cons_zero,Option.some.injEq] at h;exact absurd h.symm hne
   | tk => simp only [outsOf,List.getElem?_cons_zero,Option.some.injEq] at h;exact absurd h.symm hne
 | m :: ms,st,n,i + 1,o,h,hne => by
   have : (outsOf st (n + 1) ms)[i]? = some o:=by cases m <;> simpa [outsOf] using h
   obtain ⟨h1,h2⟩:=outs_io this hne
   rw [show n + (i + 1) = n + 1 + i by omega]
   refine ⟨?_,by simp;omega⟩
   cases m <;> simp [ioSlots,h1]
theorem resultVal_list (vs : List Value) (f : Nat → Value) (hf : ∀ j (u : Value),vs[j]? = some u → f j = u) : (if h : vs.length = 1 then vs[0] else Value.tuple vs.toArray) = resultVal vs.length f:=by
 match vs,hf with
 | [],_ => rfl
 | [v],hf => simp [resultVal,hf 0 v rfl]
 | v1 :: v2 :: vs,hf =>
   have : (List.range (v1 :: v2 :: vs).length).map f = v1 :: v2 :: vs:=by
    apply List.ext_getElem?
    intro i
    by_cases hi : i < (v1 :: v2 :: vs).length
    · have h1:=List.getElem?_eq_getElem hi
      rw [List.getElem?_map,List.getElem?_range hi,h1,Option.map_some,hf i _ h1]
    · rw [List.getElem?_eq_none (by simpa using hi),List.getElem?_eq_none (by simpa using hi)]
   show _ = Value.tuple ((List.range (v1 :: v2 :: vs).length).map f).toArray
   rw [this]
   simp
section
variable {C : Ctx} {rec : Rec} {n : Nat}
theorem put_results {w : World} {Oc : Nat → Prop} {M : Nat} : ∀ (rs : List OV) (vs : List Value) (pbs : Blk) (st : Slots) (tm : Nat → Value) (blk : Blk) (d : Nat),SRel w (fun k => Oc k ∨ pbs.has k) st tm blk → vs.length = rs.length → (∀ t,(st.get t).root = none) → (∀ i c i' c' k,pbs i c = some k → pbs i' c' = some k → i = i' ∧ c = c') →
 (∀ i,rs.length ≤ i → ∀ c,pbs i c = none) → (∀ i c k,pbs i c = some k → ¬ Oc k ∧ k < w.heap.size) → (∀ (i : Nat) (o : OV) (u : Value),rs[i]? = some o → vs[i]? = some u → ORep w (blk.off fun k => Oc k ∨ pbs.has k) o u (pbs i none) (fun j => pbs i (some j))) → M ≤ d →
 ∃ st' tm' blk',SRel w Oc st' tm' blk' ∧ (∀ t,t < d → st'.get t = st.get t ∧ tm' t = tm t) ∧ (∀ (j : Nat) (o : OV),rs[j]? = some o → st'.get (d + j) = .home o) ∧ (∀ (j : Nat) (u : Value),vs[j]? = some u → tm' (d + j) = u) ∧ (∀ t c k,blk' t c = some k → (∃ t c,blk t c = some k) ∨ pbs.has k)
 | [],vs,pbs,st,tm,blk,d,h,hl,_,_,he,_,_,_ => by
   have : vs = []:=List.eq_nil_of_length_eq_zero (by simpa using hl)
   subst this
   refine ⟨st,tm,blk,h.world (Nat.le_refl _) (fun _ _ _ => rfl) (fun k _ q => .inl q),fun _ _ => ⟨rfl,rfl⟩,fun j o q => by simp at q,fun j u q => by simp at q,fun t c k q => .inl ⟨t,c,q⟩⟩
 | o :: rs,[],_,_,_,_,_,_,hl,_,_,_,_,_,_ => by simp at hl
 | o :: rs,u :: vs,pbs,st,tm,blk,d,h,hl,hr,hi,he,hout,hrep,hM => by
   let tl : Blk:=fun i => pbs (i + 1)
   have hhas : ∀ k,pbs.has k ↔ (∃ c,pbs 0 c = some k) ∨ tl.has k:=by
    intro k
    constructor
    · rintro ⟨i,c,q⟩
      cases i with
      | zero => exact .inl ⟨c,q⟩
      | succ i => exact .inr ⟨i,c,q⟩
    · rintro (⟨c,q⟩ | ⟨i,c,q⟩)
      · exact ⟨0,c,q⟩
      · exact ⟨i + 1,c,q⟩
   have hp : Pend w (fun k => Oc k ∨ tl.has k) st tm blk (.home o) u (pbs 0):=by
    refine ⟨h.world (Nat.le_refl _) (fun _ _ _ => rfl) (fun k _ q => ?_),fun c c' k q q' => (hi _ _ _ _ _ q q').2,fun c k q => ⟨?_,(hout _ _ _ q).2⟩,?_⟩
    · rcases q with (q | q) | q
      · exact .inl q
      · exact .inr ((hhas k).2 (.inr q))
      · exact .inr ((hhas k).2 (.inl q))
    · rintro (q' | ⟨i,c',q'⟩)
      · exact (hout _ _ _ q).1 q'
      · have:=(hi _ _ _ _ _ q q').1
        omega
    · have:=hrep 0 o u rfl rfl
      refine ORep.move this ⟨fun k _ hno => ⟨rfl,?_⟩,fun _ _ => rfl⟩
      rintro (q | (q | q) | q)
      · exact hno (.inl q)
      · exact hno (.inr (.inl q))
      · exact hno (.inr (.inr ((hhas k).2 (.inr q))))
      · exact hno (.inr (.inr ((hhas k).2 (.inl q))))
   have hput:=hp.put d
   have hget : ∀ t,(st.put d (.home o)).get t = if t = d then .home o else st.get t:=by
    intro t
    show (Edit.on ⟨d,.home o,.all⟩ st).get t = _
    rw [get_e]
    by_cases e : t = d
    · subst e;simp
    · rw [if_neg e,if_neg e,Cut.one_far]
      rw [hr t];simp
   obtain ⟨st',tm',blk',g1,g2,g3,g4,g5⟩:=put_results (Oc:=Oc) (M:=M) rs vs tl (st.put d (.home o)) _ _ (d + 1) hput (by simpa using hl) (fun t => by rw [hget];split;rfl;exact hr t) (fun i c i' c' k q q' => by
    obtain ⟨e1,e2⟩:=hi _ _ _ _ _ q q'
    exact ⟨by omega,e2⟩) (fun i hi' c => he (i + 1) (by simp;omega) c) (fun i c k q => hout _ _ _ q) (fun i o' u' q q' => by
    have:=hrep (i + 1) o' u' (by simpa using q) (by simpa using q')
    refine ORep.move this ⟨fun k _ hno => ⟨rfl,?_⟩,fun _ _ => rfl⟩
    rintro (⟨t,c,q⟩ | q | q)
    · by_cases ht : t = d
      · subst ht;rw [updN_same] at q;exact hno (.inr (.inr ⟨0,c,q⟩))
      · rw [updN_ne _ _ ht] at q;exact hno (.inl ⟨t,c,q⟩)
    · exact hno (.inr (.inl q))
    · exact hno (.inr (.inr ((hhas k).2 (.inr q))))) (by omega)
   refine ⟨st',tm',blk',g1,fun t ht => ?_,fun j o' q => ?_,fun j u' q => ?_,fun t c k q => ?_⟩
   · obtain ⟨e1,e2⟩:=g2 t (by omega)
     rw [e1,e2,hget,if_neg (by omega),updN_ne _ _ (by omega)]
     exact ⟨rfl,rfl⟩
   · cases j with
     | zero =>
       simp at q
       subst q
       rw [Nat.add_zero,(g2 d (by omega)).1,hget,if_pos rfl]
     | succ j =>
       rw [show d + (j + 1) = d + 1 + j by omega]
       exact g3 j o' (by simpa using q)
   · cases j with
     | zero =>
       simp at q
       subst q
       rw [Nat.add_zero,(g2 d (by omega)).2,updN_same]
     | succ j =>
       rw [show d + (j + 1) = d + 1 + j by omega]
       exact g4 j u' (by simpa using q)
   · rcases g5 t c k q with ⟨t',c',q⟩ | ⟨i,c',q⟩
     · by_cases ht : t' = d
       · subst ht;rw [updN_same] at q;exact .inr ⟨0,c',q⟩
       · rw [updN_ne _ _ ht] at q;exact .inl ⟨t',c',q⟩
     · exact .inr ⟨i + 1,c',q⟩
theorem body_spec (hN : namesOk C.P = true) (hrec : ∀ g os rr,rec g os = some rr → CallSpec C.P g os rr.1 rr.2) {f : FuncId} {os : List OV} {r : List OV × List OV} (h : callBody C rec n f os = some r) : CallSpec C.P f os r.1 r.2:=by
 unfold callBody at h
 split at h
 · cases h
 · rename_i fn hfn
   split at h
   · cases h
   · rename_i c hc
     split at h
     case h_2 => cases h
     rename_i hok
     simp only [Bool.and_eq_true,Nat.ble_eq] at hok
     intro w Oc us ab hul hOc hS
     refine calls_of_wp hfn hc ?_
     have htm : (fun t => (us.toArray ++ Array.replicate (fn.ntmps - us.toArray.size) Go.undef).getD t Go.undef) = fun t => us.getD t Go.undef:=by
      funext t
      by_cases ht : t < us.length
      · simp [Array.getD,List.getD,ht,Array.getElem_append]
        intro _;omega
      · simp only [Array.getD,List.getD]
        rw [List.getElem?_eq_none (by omega)]
        split
        · rename_i h1
          simp at h1
          simp [Array.getElem_append,ht]
        · rfl
     have hFr : Fr w ab.has fn.ntmps Oc (fun t => t ∈ ioSlots 0 (C.mode f) ∧ t < us.length) (fun t => us.getD t Go.undef) w (startSlots 0 os) { tmps:=us.toArray ++ Array.replicate (fn.ntmps - us.toArray.size) Go.undef,defers:=[] }:=by
      refine ⟨⟨ab,?_,fun t c k q => .inl ⟨t,c,q⟩⟩,rfl,?_,GrowB.refl _ _,?_⟩
      · show SRel w Oc (startSlots 0 os) (fun t => (us.toArray ++ Array.replicate (fn.ntmps - us.toArray.size) Go.undef).getD t Go.undef) ab
        rw [htm];exact hS
      · simp;omega
      · intro t _
        exact congrFun htm t
     refine code_wp hN hOc hrec (io:=ioSlots 0 (C.mode f)) (fun t ht => ht.1) c _ _ r w _ _ h hok.1.1 hFr fun e st' a w' he hf' => ?_
     have key : ∀ rs st2,resultsOf C.P fn.results.toList st' = some (rs,st2) → r = (rs,outsOf st2 0 (C.mode f)) → a.defers = [] ∧ ∃ v,(results fn a.tmps).run C.P w' = .ok v w' ∧ ∃ v',Ending.returned v = .returned v' ∧ Grow w w' ab ∧ CallOut w w' Oc ab us r.1 r.2 v':=by
      intro rs st2 hr1 hr2
      refine ⟨hf'.defers,?_⟩
      obtain ⟨blk,hS',hB⟩:=hf'.ex
      obtain ⟨vs,blk2,pbs,m1,H⟩:=results_rep (act:=a) hS' hr1
      have hrun:=results_run (act:=a) m1
      refine ⟨_,hrun,_,rfl,⟨hf'.grow.os,hf'.grow.tape,hf'.grow.output,hf'.grow.size,fun k hk hno => hf'.grow.same k hk hno⟩,?_⟩
      let M:=us.length
      let stH : Slots:=(st2.mapv homeOnly).keep (List.range M)
      have hgetH : ∀ t,stH.get t = if t < M then homeOnly (st2.get t) else .dead:=by
       intro t
       show ((st2.mapv homeOnly).keep (List.range M)).get t = _
       rw [get_keep,get_mapv _ rfl]
       simp only [List.mem_range]
      obtain ⟨blkH,k1,k2,k3⟩:=H.frame.weaken (st':=stH) (fun t => by
       rw [hgetH]
       split
       · cases st2.get t with
         | home o => exact .inl rfl
         | _ => exact .inr rfl
       · exact .inr rfl)
      have hpo : ∀ i c k,pbs i c = some k → ¬ Oc k ∧ k < w'.heap.size:=by
       intro i c k q
       obtain ⟨t,c',q'⟩:=H.from_ i c k q
       exact hS'.out _ _ _ q'
      obtain ⟨st3,tm3,blk3,p1,p2,p3,p4,p5⟩:=put_results (Oc:=Oc) (M:=M) rs vs pbs stH (tmOf a) blkH M k1 H.len (fun t => by
       rw [hgetH]
       split
       · cases st2.get t <;> rfl
       · rfl) H.inj H.end_ hpo (fun i o u q q' => (H.rep i o u q q').move ⟨fun k _ hno => ⟨rfl,fun q => hno (by
         rcases q with ⟨t,c,q⟩ | q
         · exact .inl ⟨t,c,k2 _ _ _ q⟩
         · exact .inr q)⟩,fun _ _ => rfl⟩) (Nat.le_refl _)
      have hfrom : ∀ k,blk.has k → ab.has k ∨ w.heap.size ≤ k:=by
       rintro k ⟨t,c,q⟩
       exact hB t c k q
      rw [hr2]
      refine ⟨⟨M,st3,tm3,blk3,p1,fun t c k q => ?_,Nat.le_refl _,fun i o q hne => ?_,fun j o q => p3 j o q,?_⟩⟩
      · rcases p5 t c k q with ⟨t',c',q⟩ | ⟨i,c',q⟩
        · exact hfrom k ⟨_,_,H.sub _ _ _ (k2 _ _ _ q)⟩
        · exact hfrom k (H.from_ _ _ _ q)
      · have hg:=outs_get q hne
        rw [Nat.zero_add] at hg
        obtain ⟨hio,hlt⟩:=outs_io q hne
        rw [Nat.zero_add] at hio
        have hlu : i < us.length:=by omega
        obtain ⟨e1,e2⟩:=p2 i hlu
        refine ⟨?_,?_,hlu⟩
        · rw [e1,hgetH,if_pos hlu,hg];rfl
        · rw [e2];exact hf'.kept i ⟨hio,hlu⟩
      · rw [← H.len]
        exact resultVal_list vs _ fun j u q => p4 j u q
     cases e with
     | normal =>
       simp only [finish] at he
       split at he
       · rename_i rs st2 hr
         cases he
         exact key rs st2 hr rfl
       · cases he
     | ret =>
       simp only [finish] at he
       split at he
       · rename_i rs st2 hr
         cases he
         exact key rs st2 hr rfl
       · cases he
     | exit id => simp [finish] at he
theorem CallOut.freeze1 {w w' : World} {Oc : Nat → Prop} {ab : Blk} {us : List Value} {pre rest outs : List OV} {o : OV} {pv : PV} {v : Value} (h : CallOut w w' Oc ab us (pre ++ o :: rest) outs v) (hv : o.pv = some pv) : CallOut w w' Oc ab us (pre ++ .flat (.val pv) :: rest) outs v:=by
 obtain ⟨N,st,tm,ob,k1,k2,k3,k4,k5,k6⟩:=h.ex
 have hg : st.get (N + pre.length) = .home o:=k5 _ _ (by simp)
 obtain ⟨blk',f1,f2,f3⟩:=freeze_place (e:=⟨N + pre.length,.home (.flat (.val pv)),.all⟩) k1 hg (c:=none) (x:=o) rfl hv rfl
 have hget : ∀ t o',t ≠ N + pre.length → st.get t = .home o' → ((⟨N + pre.length,.home (.flat (.val pv)),.all⟩ : Edit).on st).get t = .home o':=by
  intro t o' ht hgt
  rw [get_edit,if_neg ht]
  show ((Cut.all).on (N + pre.length) st).get t = .home o'
  rw [get_cut,hgt]
  rfl
 refine ⟨⟨N,_,tm,blk',f1,fun t c k hk => k2 t c k (f2 t c k hk).1,k3,fun i o' hi ho => ?_,fun j o' hj => ?_,by simpa using k6⟩⟩
 · obtain ⟨g1,g2,g3⟩:=k4 i o' hi ho
   exact ⟨hget i o' (by omega) g1,g2,g3⟩
 · by_cases hjp : j = pre.length
   · subst hjp
     simp at hj
     subst hj
     rw [get_edit,if_pos rfl]
   · refine hget _ _ (by omega) (k5 j o' ?_)
     rcases Nat.lt_or_gt_of_ne hjp with hlt | hgt
     · rw [List.getElem?_append_left hlt] at hj ⊢
       exact hj
     · rw [List.getElem?_append_right (by omega)] at hj ⊢
       have : j - pre.length = (j - pre.length - 1) + 1:=by omega
       rw [this] at hj ⊢
       simpa using hj
theorem CallOut.freeze {w w' : World} {Oc : Nat → Prop} {ab : Blk} {us : List Value} {outs : List OV} {v : Value} : ∀ (bs : List Bool) (pre rs : List OV),CallOut w w' Oc ab us (pre ++ rs) outs v → CallOut w w' Oc ab us (pre ++ frzR bs rs) outs v
 | true :: bs,pre,o :: rs,h => by
   simp only [frzR]
   have step : ∀ o',CallOut w w' Oc ab us (pre ++ o' :: rs) outs v → CallOut w w' Oc ab us (pre ++ o' :: frzR bs rs) outs v:=fun o' h' => by
    have:=CallOut.freeze bs (pre ++ [o']) rs (by simpa using h')
    simpa using this
   split
   · rename_i pv hp
     exact step _ (h.freeze1 hp)
   · exact step _ h
 | false :: bs,pre,o :: rs,h => by
   simp only [frzR]
   have:=CallOut.freeze bs (pre ++ [o]) rs (by simpa using h)
   simpa using this
 | [],pre,rs,h => by
   cases rs <;> exact h
 | b :: bs,pre,[],h => by
   cases b <;> exact h
theorem CallSpec.freeze {P : Program} {f : FuncId} {os rs outs : List OV} (h : CallSpec P f os rs outs) (bs : List Bool) : CallSpec P f os (frzR bs rs) outs:=by
 intro w Oc us ab h1 h2 h3
 refine (h w Oc us ab h1 h2 h3).mono fun e w' ⟨v,e1,e2,e3⟩ => ⟨v,e1,e2,?_⟩
 exact CallOut.freeze bs [] rs e3
theorem pcall_spec (hN : namesOk C.P = true) (hprim : ∀ g p os rr,C.prim g = some p → p os = some rr → CallSpec C.P g os rr.1 rr.2) : ∀ (n : Nat) (f : FuncId) (os : List OV) (r : List OV × List OV),pcall C n f os = some r → CallSpec C.P f os r.1 r.2
 | 0,_,_,_,h => by cases h
 | n + 1,f,os,r,h => by
   simp only [pcall] at h
   split at h
   · rename_i p hp;exact hprim f p os r hp h
   · generalize hb : callBody C (pcall C n) n f os = b at h
     cases b with
     | none => cases h
     | some rr =>
       cases h
       exact (body_spec hN (pcall_spec hN hprim n) hb).freeze _
end
end Go.Ev

namespace Go.Ev
mutual
def pvBulk : PV → Nat
 | .str s => s.length + 1
 | .sl _ xs => pvBulks xs + 1
 | .agg cs => pvBulks cs
 | .ptr _ v => pvBulk v + 1
 | _ => 1
def pvBulks : List PV → Nat
 | [] => 0
 | x :: r => pvBulk x + pvBulks r
end
mutual
def dBulk {H : Type} : DataW H → Nat
 | .lit (.string bytes) => bytes.length + 1
 | .lit _ => 1
 | .nil => 1
 | .ptr d => dBulk d + 1
 | .slice elems spare => dBulks elems + dBulks spare + 1
 | .agg parts => dBulks parts + 1
 | .iface _ d => dBulk d + 1
 | .map entries => dBulkEs entries + 1
 | .held _ => 1
def dBulks {H : Type} : List (DataW H) → Nat
 | [] => 0
 | d :: r => dBulk d + dBulks r
def dBulkEs {H : Type} : List (Lit × DataW H) → Nat
 | [] => 0
 | x :: r => dBulkE x + dBulkEs r
def dBulkE {H : Type} : Lit × DataW H → Nat
 | (.string bytes,d) => bytes.length + dBulk d + 1
 | (_,d) => dBulk d + 1
end
theorem pvBulks_append (a b : List PV) : pvBulks (a ++ b) = pvBulks a + pvBulks b:=by
 induction a with
 | nil => simp [pvBulks]
 | cons x a ih => simp [pvBulks,ih];omega
theorem pvBulks_cells (v : PV) : pvBulks v.cells = pvBulk v:=by
 cases v <;> simp [PV.cells,pvBulks,pvBulk]
def TypedC (P : Program) : Nat → TypeId → List PV → Prop
 | 0,_,_ => False
 | d + 1,t,cs => match P.underlying t with
   | some .bool => ∃ b,cs = [.bool b]
   | some (.int k) => ∃ n,cs = [.int k n] ∧ (Lit.int k n).wf = true
   | some .string => ∃ s,cs = [.str s] ∧ s.length ≤ maxLen
   | some (.slice e) => ∃ sh xs,cs = [.sl sh xs] ∧ tShape P e = some sh ∧ xs.length ≤ maxLen ∧ ∀ x ∈ xs,pvFits sh x = true ∧ TypedC P d e x.cells
   | some (.pointer e) => cs = [.nilp] ∨ ∃ sh x,cs = [.ptr sh x] ∧ tShape P e = some sh ∧ pvFits sh x = true ∧ TypedC P d e x.cells
   | some (.struct fs) => cs.length = P.cellsOf t ∧ ∀ f ∈ fs.toList,TypedC P d f.type ((cs.drop f.offset).take (P.cellsOf f.type))
   | _ => False
def Typed (P : Program) (t : TypeId) (v : PV) : Prop := ∃ d sh,tShape P t = some sh ∧ pvFits sh v = true ∧ TypedC P d t v.cells
inductive TypedAll (P : Program) : List TypeId → List PV → Prop
 | nil : TypedAll P [] []
 | cons (t : TypeId) (v : PV) (ts : List TypeId) (vs : List PV) (h : Typed P t v) (hr : TypedAll P ts vs) : TypedAll P (t :: ts) (v :: vs)
def goodT (P : Program) (T : List TypeId) : Bool:=T.all fun t => (match P.underlying t with
 | some .bool => true
 | some (.int _) => true
 | some .string => true
 | some (.slice e) => memN e T && Nat.blt 0 (P.cellsOf e)
 | some (.pointer e) => memN e T
 | some (.struct fs) => fs.toList.all fun f => memN f.type T
 | _ => false) && (tShape P t).isSome && Nat.blt t P.types.size
section
variable {H : Type} {enc : TypeId × Value → H} {P : Program} {w : World}
theorem cells?_spec {a : Addr} {n : Nat} {cs : List Value} (h : w.cells? 0 a n = some cs) : cs.length = n ∧ ∀ j,j < n → ∀ u,cs[j]? = some u → w.cell? (a.add j) = some u:=by
 unfold World.cells? at h
 rw [if_pos (Nat.zero_le _)] at h
 have hl:=mapM_some_length h
 simp at hl
 refine ⟨hl,fun j hj u hu => ?_⟩
 have:=mapM_some_get h j j (by simp [hj])
 rw [this];exact hu
theorem shN_cellsOf {t : TypeId} {sh : Option Nat} (h : tShape P t = some sh) : shN sh = P.cellsOf t:=by
 obtain ⟨i,hi,hs⟩:=tShape_size h
 simp [Program.cellsOf,hi,hs]
theorem shape_struct {t : TypeId} {fs : Array Field} {sh : Option Nat} (hu : P.underlying t = some (.struct fs)) (h : tShape P t = some sh) : ∃ n,sh = some n:=by
 unfold tShape at h
 rw [hu] at h
 cases hi : P.info? t with
 | none => rw [hi] at h;cases h
 | some i => rw [hi] at h;exact ⟨i.size,(Option.some.inj h).symm⟩
structure RepCells (w : World) (pcs : List PV) (cs : List Value) : Prop where
 len : pcs.length = cs.length
 cell : ∀ (j : Nat) (y : PV),pcs[j]? = some y → isCell y = true ∧ ∃ u,cs[j]? = some u ∧ RepV w (fun _ => False) y u
theorem RepCells.one {y : PV} {u : Value} (hc : isCell y = true) (h : RepV w (fun _ => False) y u) : RepCells w [y] [u] :=
 ⟨rfl,fun j z hj => by
   cases j with
   | zero => simp at hj;subst hj;exact ⟨hc,u,rfl,h⟩
   | succ j => simp at hj⟩
def ofCells (sh : Option Nat) (pcs : List PV) : PV:=match sh with
 | none => pcs.headD .undef
 | some _ => .agg pcs
theorem ofCells_fits {sh : Option Nat} {pcs : List PV} (hl : pcs.length = shN sh) (hc : ∀ (j : Nat) (y : PV),pcs[j]? = some y → isCell y = true) : pvFits sh (ofCells sh pcs) = true ∧ (ofCells sh pcs).cells = pcs:=by
 cases sh with
 | none =>
   match pcs,hl with
   | [y],_ =>
     have:=hc 0 y rfl
     exact ⟨this,cells_of_isCell this⟩
 | some n =>
   have hl : pcs.length = n:=hl
   exact ⟨by simp [ofCells,pvFits,hl],rfl⟩
theorem flatten_part (ps : List (List PV)) (sz : Nat → Nat) (hs : ∀ (i : Nat) (p : List PV),ps[i]? = some p → p.length = sz i) (i : Nat) (p : List PV) (hi : ps[i]? = some p) :
 (ps.flatten.drop ((ps.take i).map List.length).sum).take p.length = p:=by
 induction ps generalizing i sz with
 | nil => simp at hi
 | cons q ps ih =>
   cases i with
   | zero => simp at hi;subst hi;simp
   | succ i =>
     simp only [List.take_succ_cons,List.map_cons,List.sum_cons,List.flatten_cons]
     rw [List.drop_append,List.drop_eq_nil_of_le (by omega),Nat.add_sub_cancel_left,List.nil_append]
     exact ih (fun i => sz (i + 1)) (fun i p hp => hs (i + 1) p (by simpa using hp)) i (by simpa using hi)
theorem pieces {α β : Type} (Q : Nat → α → β → Prop) : ∀ (l : List α) (n : Nat),(∀ (i : Nat) (x : α),l[i]? = some x → ∃ y,Q (n + i) x y) → ∃ ys : List β,ys.length = l.length ∧ ∀ (i : Nat) (x : α) (y : β),l[i]? = some x → ys[i]? = some y → Q (n + i) x y
 | [],_,_ => ⟨[],rfl,fun i x y h => by simp at h⟩
 | x :: l,n,h => by
   obtain ⟨y,hy⟩:=h 0 x rfl
   obtain ⟨ys,h1,h2⟩:=pieces Q l (n + 1) (fun i z hz => by
    obtain ⟨y,hy⟩:=h (i + 1) z (by simpa using hz)
    exact ⟨y,by rw [show n + 1 + i = n + (i + 1) by omega];exact hy⟩)
   refine ⟨y :: ys,by simp [h1],fun i a b ha hb => ?_⟩
   cases i with
   | zero => simp at ha hb;subst ha;subst hb;exact hy
   | succ i =>
     have:=h2 i a b (by simpa using ha) (by simpa using hb)
     rw [show n + (i + 1) = n + 1 + i by omega];exact this
theorem dBulks_le {ys : List (List PV)} {xs : List (DataW H)} (hl : ys.length = xs.length) (h : ∀ (i : Nat) (y : List PV) (x : DataW H),ys[i]? = some y → xs[i]? = some x → pvBulks y ≤ dBulk x) : pvBulks ys.flatten ≤ dBulks xs:=by
 induction ys generalizing xs with
 | nil => simp [pvBulks]
 | cons y ys ih =>
   cases xs with
   | nil => simp at hl
   | cons x xs =>
     have h0:=h 0 y x rfl rfl
     have:=ih (xs:=xs) (by simpa using hl) fun i a b ha hb => h (i + 1) a b (by simpa using ha) (by simpa using hb)
     simp only [List.flatten_cons,pvBulks_append,dBulks]
     omega
theorem sum_map_len {fs : List Field} {ys : List (List PV)} (hl : ys.length = fs.length) (h : ∀ (i : Nat) (f : Field) (y : List PV),fs[i]? = some f → ys[i]? = some y → y.length = P.cellsOf f.type) (j : Nat) :
 ((ys.take j).map List.length).sum = ((fs.take j).map fun f => P.cellsOf f.type).sum:=by
 induction ys generalizing fs j with
 | nil => cases fs with | nil => simp | cons => simp at hl
 | cons y ys ih =>
   cases fs with
   | nil => simp at hl
   | cons f fs =>
     cases j with
     | zero => simp
     | succ j =>
       have h0:=h 0 f y rfl rfl
       have:=ih (fs:=fs) (by simpa using hl) (fun i a b ha hb => h (i + 1) a b (by simpa using ha) (by simpa using hb)) j
       simp only [List.take_succ_cons,List.map_cons,List.sum_cons,h0,this]
theorem trod_rep {T : List TypeId} (hT : goodT P T = true) (K : Kids P (fun t => t ∈ T)) : ∀ (n : Nat) (t : TypeId) (cs : List Value) (x : DataW H × List MemPlace),t ∈ T → DataW.trod enc P w 0 (fun _ => true) true n t cs = some x →
 ∃ pcs,TypedC P n t pcs ∧ RepCells w pcs cs ∧ pvBulks pcs ≤ dBulk x.1:=by
 intro n
 induction n with
 | zero => intro t cs x _ h;simp [DataW.trod] at h
 | succ n ih =>
   intro t cs x ht h
   have hg:=List.all_eq_true.1 hT t ht
   simp only [Bool.and_eq_true] at hg
   obtain ⟨⟨hg,hsh⟩,_⟩:=hg
   have good : ∀ e,e ∈ T → ∃ sh,tShape P e = some sh:=fun e he => by
    have:=List.all_eq_true.1 hT e he
    simp only [Bool.and_eq_true] at this
    exact Option.isSome_iff_exists.1 this.1.2
   have atAddr : ∀ (e : TypeId) (a : Addr) (sh : Option Nat) (cs' : List Value) (y : DataW H × List MemPlace),e ∈ T → tShape P e = some sh → w.cells? 0 a (P.cellsOf e) = some cs' → DataW.trod enc P w 0 (fun _ => true) true n e cs' = some y →
    ∃ v,pvFits sh v = true ∧ TypedC P n e v.cells ∧ pvBulk v ≤ dBulk y.1 ∧ (∀ (j : Nat) (z : PV),v.cells[j]? = some z → isCell z = true ∧ ∃ u,w.cell? (a.add j) = some u ∧ RepV w (fun _ => False) z u):=by
    intro e a sh cs' y he hs hc hy
    obtain ⟨pcs,h1,h2,h3⟩:=ih e cs' y he hy
    obtain ⟨l1,l2⟩:=cells?_spec hc
    have hl : pcs.length = shN sh:=by rw [h2.len,l1,shN_cellsOf hs]
    obtain ⟨f1,f2⟩:=ofCells_fits hl (fun j z hz => (h2.cell j z hz).1)
    refine ⟨ofCells sh pcs,f1,by rw [f2];exact h1,by rw [← pvBulks_cells,f2];exact h3,fun j z hz => ?_⟩
    rw [f2] at hz
    obtain ⟨c1,u,c2,c3⟩:=h2.cell j z hz
    have hj:=(List.getElem?_eq_some_iff.1 hz).1
    exact ⟨c1,u,l2 j (by rw [h2.len,l1] at hj;exact hj) u c2,c3⟩
   have hstep:=h
   cases hu : P.underlying t with
   | none => rw [hu] at hg;simp at hg
   | some desc =>
     rw [hu] at hg
     cases desc with
     | bool =>
       obtain ⟨b,rfl,rfl⟩:=DataW.trod_bool hu h
       exact ⟨[.bool b],by unfold TypedC;rw [hu];exact ⟨b,rfl⟩,.one rfl (.bool b),by simp [pvBulks,pvBulk,dBulk]⟩
     | int k =>
       obtain ⟨m,rfl,rfl,hwf⟩:=DataW.trod_int hu h
       exact ⟨[.int k m],by unfold TypedC;rw [hu];exact ⟨m,rfl,hwf⟩,.one rfl (.int k m),by simp [pvBulks,pvBulk,dBulk]⟩
     | string =>
       obtain ⟨s,rfl,rfl,hmax⟩:=DataW.trod_string hu h
       exact ⟨[.str s.data.toList],by unfold TypedC;rw [hu];exact ⟨_,rfl,by simpa using hmax⟩,.one rfl (.str s),by simp [pvBulks,pvBulk,dBulk]⟩
     | slice e =>
       simp only [Bool.and_eq_true] at hg
       have he : e ∈ T:=(memN_iff _ _).1 hg.1
       obtain ⟨sh,hs⟩:=good e he
       rcases DataW.trod_slice hu h with ⟨rfl,rfl⟩ | ⟨a,len,cap,elems,rest,m,hm,rfl,rfl,_,hlc,hcm,hel,helem,_,_⟩
       · refine ⟨[.sl sh []],?_,.one rfl (.slNil sh),by simp [pvBulks,pvBulk,dBulk]⟩
         unfold TypedC
         rw [hu]
         exact ⟨sh,[],rfl,hs,Nat.zero_le _,fun x hx => by cases hx⟩
       · cases hm
         obtain ⟨vs,v1,v2⟩:=pieces (fun i (y : DataW H × List MemPlace) (v : PV) => pvFits sh v = true ∧ TypedC P n e v.cells ∧ pvBulk v ≤ dBulk y.1 ∧ ∀ (j : Nat) (z : PV),v.cells[j]? = some z → isCell z = true ∧ ∃ u,w.cell? ((a.add (i * P.cellsOf e)).add j) = some u ∧ RepV w (fun _ => False) z u) elems 0 (fun i y hy => by
          have hi:=(List.getElem?_eq_some_iff.1 hy).1
          have:=helem i (by omega)
          rw [hy,Option.bind_eq_some_iff] at this
          obtain ⟨cs',hc1,hc2⟩:=this
          rw [Nat.zero_add]
          exact atAddr e _ sh cs' y he hs hc1 hc2)
         have hvl : vs.length = len:=by omega
         have hget : ∀ (i : Nat) (v : PV),vs[i]? = some v → ∃ y,elems[i]? = some y:=fun i v hv => by
          have hi:=(List.getElem?_eq_some_iff.1 hv).1
          exact ⟨elems[i]'(by omega),List.getElem?_eq_getElem _⟩
         refine ⟨[.sl sh vs],?_,.one rfl ?_,?_⟩
         · unfold TypedC
           rw [hu]
           refine ⟨sh,vs,rfl,hs,by omega,fun v hv => ?_⟩
           obtain ⟨i,hi,rfl⟩:=List.mem_iff_getElem.1 hv
           obtain ⟨y,hy⟩:=hget i _ (List.getElem?_eq_getElem hi)
           have:=v2 i y _ hy (List.getElem?_eq_getElem hi)
           exact ⟨this.1,this.2.1⟩
         · rw [← hvl]
           have hcc:=shN_cellsOf (P:=P) hs
           have key : ∀ (i : Nat) (v : PV) (j : Nat) (z : PV),vs[i]? = some v → v.cells[j]? = some z → isCell z = true ∧ ∃ u,w.cell? (a.add (i * shN sh + j)) = some u ∧ RepV w (fun _ => False) z u:=by
            intro i v j z hv hz
            obtain ⟨y,hy⟩:=hget i v hv
            obtain ⟨c1,u,c2,c3⟩:=(v2 i y v hy hv).2.2.2 j z hz
            rw [Nat.zero_add,← hcc,add_add] at c2
            exact ⟨c1,u,c2,c3⟩
           refine .sl sh vs a cap (fun i j => (w.cell? (a.add (i * shN sh + j))).getD Go.undef) (by omega) (fun i v hv => ?_) (fun i v j z hv hz => (key i v j z hv hz).1) (fun _ _ _ _ _ _ q => q) (fun i v j z hv hz => ?_) (fun i v j z hv hz => ?_)
           · obtain ⟨y,hy⟩:=hget i v hv
             exact (v2 i y v hy hv).1
           · obtain ⟨_,u,c2,_⟩:=key i v j z hv hz
             rw [c2];rfl
           · obtain ⟨_,u,c2,c3⟩:=key i v j z hv hz
             rw [c2];exact c3
         · have hb : pvBulks vs ≤ dBulks (elems.map (·.1)):=by
            have : ∀ (vs : List PV) (es : List (DataW H × List MemPlace)),vs.length = es.length → (∀ (i : Nat) (y : DataW H × List MemPlace) (v : PV),es[i]? = some y → vs[i]? = some v → pvBulk v ≤ dBulk y.1) → pvBulks vs ≤ dBulks (es.map (·.1)):=by
             intro vs
             induction vs with
             | nil => intro es _ _;simp [pvBulks]
             | cons v vs ih2 =>
               intro es hl hh
               cases es with
               | nil => simp at hl
               | cons y es =>
                 have h0:=hh 0 y v rfl rfl
                 have:=ih2 es (by simpa using hl) fun i a b ha hb => hh (i + 1) a b (by simpa using ha) (by simpa using hb)
                 simp only [pvBulks,List.map_cons,dBulks]
                 omega
            exact this vs elems v1 fun i y v hy hv => (v2 i y v hy hv).2.2.1
           simp only [pvBulks,pvBulk,dBulk]
           omega
     | pointer e =>
       have he : e ∈ T:=(memN_iff _ _).1 hg
       obtain ⟨sh,hs⟩:=good e he
       rcases DataW.trod_pointer hu h with ⟨rfl,rfl⟩ | ⟨a,cs',y,m,hm,rfl,rfl,hc,hy⟩
       · exact ⟨[.nilp],by unfold TypedC;rw [hu];exact .inl rfl,.one rfl .nilp,by simp [pvBulks,pvBulk,dBulk]⟩
       · cases hm
         obtain ⟨v,h1,h2,h3,h4⟩:=atAddr e a sh cs' y he hs hc hy
         refine ⟨[.ptr sh v],by unfold TypedC;rw [hu];exact .inr ⟨sh,v,rfl,hs,h1,h2⟩,.one rfl ?_,by simp only [pvBulks,pvBulk,dBulk];omega⟩
         refine .ptr sh v a (fun j => (w.cell? (a.add j)).getD Go.undef) h1 (fun j z hz => (h4 j z hz).1) (fun _ _ _ q => q) (fun j z hz => ?_) (fun j z hz => ?_)
         · obtain ⟨_,u,c2,_⟩:=h4 j z hz
           rw [c2];rfl
         · obtain ⟨_,u,c2,c3⟩:=h4 j z hz
           rw [c2];exact c3
     | struct fs =>
       simp only [List.all_eq_true] at hg
       obtain ⟨xs,m,hm,rfl,hl,hxl,hf⟩:=DataW.trod_struct hu h
       cases hm
       obtain ⟨_,ksum,koff⟩:=K.struct ht hu
       obtain ⟨ys,y1,y2⟩:=pieces (fun i (f : Field) (pcs : List PV) => TypedC P n f.type pcs ∧ RepCells w pcs ((cs.drop f.offset).take (P.cellsOf f.type)) ∧ ∀ x,xs[i]? = some x → pvBulks pcs ≤ dBulk x.1) fs.toList 0 (fun i f hif => by
        have hi : i < xs.length:=by rw [hxl];simpa using (List.getElem?_eq_some_iff.1 hif).1
        have hfi : fs[i]? = some f:=by simpa using hif
        have hx:=hf i f hfi
        rw [List.getElem?_eq_getElem hi] at hx
        obtain ⟨pcs,p1,p2,p3⟩:=ih f.type _ _ ((memN_iff _ _).1 (hg f (List.mem_of_getElem? hif))) hx
        refine ⟨pcs,p1,p2,fun x hx' => ?_⟩
        rw [Nat.zero_add,List.getElem?_eq_getElem hi] at hx'
        cases hx'
        exact p3)
       have hfl : fs.toList.length = fs.size:=by simp
       have hoffs : ∀ (i : Nat) (f : Field),fs.toList[i]? = some f → f.offset + P.cellsOf f.type ≤ cs.length:=by
        intro i f hif
        rw [hl,ksum,koff i f hif]
        have hi:=(List.getElem?_eq_some_iff.1 hif).1
        have h1:=List.take_append_drop (i + 1) (fs.toList.map fun f => P.cellsOf f.type)
        have h2 : (fs.toList.map fun f => P.cellsOf f.type).take (i + 1) = (fs.toList.map fun f => P.cellsOf f.type).take i ++ [P.cellsOf f.type]:=by
         rw [List.take_succ_eq_append_getElem (by simpa using hi)]
         simp [(List.getElem?_eq_some_iff.1 hif).2]
        have h3:=congrArg List.sum h1
        rw [List.sum_append,h2,List.sum_append] at h3
        simp only [List.sum_cons,List.sum_nil] at h3
        rw [← List.map_take] at h3
        omega
       have hylen : ∀ (i : Nat) (f : Field) (y : List PV),fs.toList[i]? = some f → ys[i]? = some y → y.length = P.cellsOf f.type:=by
        intro i f y hif hiy
        have:=(y2 i f y hif hiy).2.1.len
        rw [this,List.length_take,List.length_drop]
        have:=hoffs i f hif
        omega
       have hsum:=fun j => sum_map_len (P:=P) y1 hylen j
       have hpart : ∀ (i : Nat) (f : Field) (y : List PV),fs.toList[i]? = some f → ys[i]? = some y → (ys.flatten.drop f.offset).take (P.cellsOf f.type) = y:=by
        intro i f y hif hiy
        have:=flatten_part ys (fun i => ((ys[i]?).getD []).length) (fun i p hp => by simp [hp]) i y hiy
        rw [hsum i,← koff i f hif,hylen i f y hif hiy] at this
        exact this
       have htot : ys.flatten.length = cs.length:=by
        have:=hsum ys.length
        rw [List.take_length] at this
        rw [List.length_flatten,this,y1,List.take_length,hl,ksum]
       refine ⟨ys.flatten,?_,⟨htot,fun j z hz => ?_⟩,?_⟩
       · unfold TypedC
         rw [hu]
         refine ⟨by rw [htot,hl],fun f hfm => ?_⟩
         obtain ⟨i,hi,rfl⟩:=List.mem_iff_getElem.1 hfm
         have hif : fs.toList[i]? = some fs.toList[i]:=List.getElem?_eq_getElem hi
         have hiy : ys[i]? = some (ys[i]'(by omega)):=List.getElem?_eq_getElem _
         rw [hpart i _ _ hif hiy]
         exact (y2 i _ _ hif hiy).1
       · -- the cell lies in one of the fields
         have hj:=(List.getElem?_eq_some_iff.1 hz).1
         have loc : ∀ (ps : List (List PV)) (j : Nat) (z : PV),ps.flatten[j]? = some z → ∃ (i : Nat) (p : List PV) (q : Nat),ps[i]? = some p ∧ p[q]? = some z ∧ j = ((ps.take i).map List.length).sum + q:=by
          intro ps
          induction ps with
          | nil => intro j z hz;simp at hz
          | cons p ps ih2 =>
            intro j z hz
            rw [List.flatten_cons] at hz
            by_cases hjp : j < p.length
            · rw [List.getElem?_append_left hjp] at hz
              exact ⟨0,p,j,rfl,hz,by simp⟩
            · rw [List.getElem?_append_right (by omega)] at hz
              obtain ⟨i,q,r,h1,h2,h3⟩:=ih2 _ z hz
              exact ⟨i + 1,q,r,by simpa using h1,h2,by simp only [List.take_succ_cons,List.map_cons,List.sum_cons];omega⟩
         obtain ⟨i,p,q,h1,h2,h3⟩:=loc ys j z hz
         have hi:=(List.getElem?_eq_some_iff.1 h1).1
         have hif : fs.toList[i]? = some (fs.toList[i]'(by omega)):=List.getElem?_eq_getElem _
         obtain ⟨c1,u,c2,c3⟩:=(y2 i _ p hif h1).2.1.cell q z h2
         refine ⟨c1,u,?_,c3⟩
         rw [hsum i,← koff i _ hif] at h3
         rw [List.getElem?_take] at c2
         split at c2
         · rw [List.getElem?_drop] at c2
           rw [h3];exact c2
         · cases c2
       · have:=dBulks_le (ys:=ys) (xs:=xs.map (·.1)) (by simp [y1,hxl]) (fun i y x hy hx => by
          rw [List.getElem?_map,Option.map_eq_some_iff] at hx
          obtain ⟨x',hx',rfl⟩:=hx
          have hi:=(List.getElem?_eq_some_iff.1 hy).1
          have hif : fs.toList[i]? = some (fs.toList[i]'(by omega)):=List.getElem?_eq_getElem _
          exact (y2 i _ y hif hy).2.2 x' (by rw [Nat.zero_add];exact hx'))
         simp only [dBulk]
         omega
     | _ => simp at hg
end
end Go.Ev

namespace Go.Ev
section
variable {H : Type} {enc : TypeId × Value → H} {P : Program}
theorem good_kids {T : List TypeId} (hl : laidOutB P = true) (hT : goodT P T = true) : Kids P (fun t => t ∈ T):=by
 have good : ∀ {t : TypeId},t ∈ T → _:=fun {t} ht => List.all_eq_true.1 hT t ht
 refine ⟨fun {t e} ht hu => ?_,fun {t e} ht hu => ?_,fun {t e n} ht hu => ?_,fun {t fs} ht hu => ?_,fun {t k e} ht hu => ?_⟩
 · have:=good ht
   rw [hu] at this
   simp only [Bool.and_eq_true] at this
   exact (memN_iff _ _).1 this.1.1
 · have:=good ht
   rw [hu] at this
   simp only [Bool.and_eq_true] at this
   exact (memN_iff _ _).1 this.1.1.1
 · have:=good ht
   rw [hu] at this
   simp at this
 · have:=good ht
   rw [hu] at this
   simp only [Bool.and_eq_true,List.all_eq_true,Nat.blt_eq] at this
   obtain ⟨_,h2,h3⟩:=kid_struct hl this.2 hu
   exact ⟨fun f hf => (memN_iff _ _).1 (this.1.1 f hf),h2,h3⟩
 · have:=good ht
   rw [hu] at this
   simp at this
theorem good_sized {T : List TypeId} (hT : goodT P T = true) {t e : TypeId} (ht : t ∈ T) (hu : P.underlying t = some (.slice e)) : 0 < P.cellsOf e:=by
 have:=List.all_eq_true.1 hT t ht
 rw [hu] at this
 simp only [Bool.and_eq_true,Nat.blt_eq] at this
 exact this.1.1.2
theorem trodAll_rep {T : List TypeId} {w : World} (hT : goodT P T = true) (K : Kids P (fun t => t ∈ T)) : ∀ (ts : List TypeId) (us : List Value) (ds : List (DataW H)) (ps : List MemPlace),(∀ t ∈ ts,t ∈ T) →
 (∀ (j : Nat) (t : TypeId) (u : Value),ts[j]? = some t → us[j]? = some u → tShape P t = some none → u.cells = #[u]) → (∀ (j : Nat) (t : TypeId) (u : Value) (n : Nat),ts[j]? = some t → us[j]? = some u → tShape P t = some (some n) → ∃ cs,u = .agg cs) →
 DataW.TrodAll enc P w 0 (fun _ => true) true ts us ds ps → ∃ vs,TypedAll P ts vs ∧ vs.length = us.length ∧ (∀ (j : Nat) (v : PV) (u : Value),vs[j]? = some v → us[j]? = some u → RepV w (fun _ => False) v u) ∧ pvBulks vs ≤ dBulks ds
 | [],[],[],_,_,_,_,_ => ⟨[],.nil,rfl,fun j v u h => by simp at h,by simp [pvBulks]⟩
 | t :: ts,u :: us,d :: ds,ps,ht,h1,h2,h => by
   obtain ⟨p,q,⟨n,hn⟩,hr,rfl⟩:=h
   obtain ⟨vs,a1,a2,a3,a4⟩:=trodAll_rep hT K ts us ds q (fun x hx => ht x (by simp [hx])) (fun j t' u' hj hu => h1 (j + 1) t' u' (by simpa using hj) (by simpa using hu)) (fun j t' u' m hj hu => h2 (j + 1) t' u' m (by simpa using hj) (by simpa using hu)) hr
   obtain ⟨pcs,b1,b2,b3⟩:=trod_rep hT K n t _ _ (ht t (by simp)) hn
   have hg:=List.all_eq_true.1 hT t (ht t (by simp))
   simp only [Bool.and_eq_true] at hg
   obtain ⟨sh,hs⟩:=Option.isSome_iff_exists.1 hg.1.2
   have hv : ∃ v,Typed P t v ∧ RepV w (fun _ => False) v u ∧ pvBulk v ≤ dBulk d:=by
    cases sh with
    | none =>
      have hc:=h1 0 t u rfl rfl hs
      rw [hc] at b2
      have hlen:=b2.len
      match pcs,hlen with
      | [y],_ =>
        obtain ⟨c1,x,c2,c3⟩:=b2.cell 0 y rfl
        simp at c2
        subst c2
        exact ⟨y,⟨n,none,hs,c1,by rw [cells_of_isCell c1];exact b1⟩,c3,by simpa [pvBulks] using b3⟩
    | some m =>
      obtain ⟨cs,rfl⟩:=h2 0 t u m rfl rfl hs
      have e : (Value.agg cs).cells = cs:=rfl
      rw [e] at b2
      have hlen : pcs.length = m:=by
       have:=b2.len
       have hcells : pcs.length = P.cellsOf t:=by
        cases n with
        | zero => exact b1.elim
        | succ n =>
          unfold TypedC at b1
          unfold tShape at hs
          cases hi : P.info? t with
          | none => rw [hi] at hs;cases hs
          | some i =>
            rw [hi] at hs
            cases hu : P.underlying t with
            | none => rw [hu] at hs;cases hs
            | some dd =>
              rw [hu] at hs b1
              cases dd with
              | struct fs => exact b1.1
              | array => exact b1.elim
              | _ =>
                dsimp only at hs
                split at hs
                · cases hs
                · cases hs
       rw [hcells,← shN_cellsOf hs];rfl
      refine ⟨.agg pcs,⟨n,some m,hs,by simp [pvFits,hlen],b1⟩,?_,by simpa [pvBulk] using b3⟩
      refine .agg pcs cs (fun j => cs.getD j Go.undef) (by have:=b2.len;simpa using this.symm) (fun j y hj => (b2.cell j y hj).1) (fun j y hj => ?_) (fun j y hj => ?_)
      · obtain ⟨_,z,c2,_⟩:=b2.cell j y hj
        have : cs[j]? = some z:=by simpa using c2
        simp [this]
      · obtain ⟨_,z,c2,c3⟩:=b2.cell j y hj
        have : cs[j]? = some z:=by simpa using c2
        have : cs.getD j Go.undef = z:=by simp [this]
        rw [this];exact c3
   obtain ⟨v,v1,v2,v3⟩:=hv
   refine ⟨v :: vs,.cons _ _ _ _ v1 a1,by simp [a2],fun j v' u' hj hu => ?_,by simp only [pvBulks,dBulks];omega⟩
   cases j with
   | zero => simp at hj hu;subst hj;subst hu;exact v2
   | succ j => exact a3 j v' u' (by simpa using hj) (by simpa using hu)
 | [],_ :: _,_,_,_,_,_,h => h.elim
 | [],[],_ :: _,_,_,_,_,h => h.elim
 | _ :: _,[],_,_,_,_,_,h => h.elim
 | _ :: _,_ :: _,[],_,_,_,_,h => h.elim
theorem trodAll_stays {T : List TypeId} {w w' : World} (hT : goodT P T = true) (K : Kids P (fun t => t ∈ T)) (hsame : ∀ k,k < w.heap.size → w'.heap[k]? = w.heap[k]?) : ∀ (ts : List TypeId) (us : List Value) (ds : List (DataW H)) (ps : List MemPlace),(∀ t ∈ ts,t ∈ T) →
 DataW.TrodAll enc P w 0 (fun _ => true) true ts us ds ps → DataW.TrodAll enc P w' 0 (fun b => decide (b < w.heap.size)) true ts us ds ps
 | [],[],[],_,_,h => h
 | t :: ts,u :: us,d :: ds,ps,ht,h => by
   obtain ⟨p,q,⟨n,hn⟩,hr,rfl⟩:=h
   have hlt:=DataW.trod_lt n t _ _ hn
   refine ⟨p,q,⟨n,DataW.trod_stays K (fun h1 h2 => good_sized hT h1 h2) (fun h => by cases h) (ht t (by simp)) hn (fun x hx => ?_) (fun x hx => ?_)⟩,trodAll_stays hT K hsame ts us ds q (fun x hx => ht x (by simp [hx])) hr,rfl⟩
   · have:=hsame _ (hlt x hx)
     cases x with
     | cell b off => exact cell_same this
     | map b => exact this
   · simpa using hlt x hx
 | [],_ :: _,_,_,_,h => h.elim
 | [],[],_ :: _,_,_,h => h.elim
 | _ :: _,[],_,_,_,h => h.elim
 | _ :: _,_ :: _,[],_,_,h => h.elim
theorem okWide_cells {w : World} {base : Nat} {t : TypeId} {u : Value} (h : Value.okWide P w .any base t u) : (tShape P t = some none → u.cells = #[u]) ∧ ∀ n,tShape P t = some (some n) → ∃ cs,u = .agg cs:=by
 refine ⟨fun hs => ?_,fun n hs => ?_⟩
 · have hna : ∀ cs,u ≠ .agg cs:=by
    rintro cs rfl
    unfold Value.okWide at h
    split at h
    · rename_i fs hu
      obtain ⟨m,hm⟩:=shape_struct hu hs
      cases hm
    · rename_i m e hu
      unfold tShape at hs
      rw [hu] at hs
      cases hi : P.info? t with
      | none => rw [hi] at hs;cases hs
      | some i => rw [hi] at hs;cases hs
    · unfold Cell.okWide at h
      split at h <;> try (simp_all;done)
      unfold Cell.ok at h
      split at h <;> simp_all
   cases u with
   | agg cs => exact absurd rfl (hna cs)
   | _ => rfl
 · unfold Value.okWide at h
   split at h
   · exact let ⟨cs,h1,_⟩:=h;⟨cs,h1⟩
   · exact let ⟨cs,h1,_⟩:=h;⟨cs,h1⟩
   · rename_i h1 h2
     exfalso
     unfold tShape at hs
     split at hs
     · rename_i i fs _ hu;exact h1 _ hu
     · rename_i i m e _ hu;exact h2 _ _ hu
     · split at hs
       · cases hs
       · cases hs
     · cases hs
theorem law_contract {C : Ctx} {f : FuncId} {fn : Func} {s : ChangeSpec} {T : List TypeId} {tb : TypeId} {W : World} {base : Nat} {args : Array Value} {ds gs : List (DataW H)} {before : List MemPlace}
 (hN : namesOk C.P = true) (hprim : ∀ g p os rr,C.prim g = some p → p os = some rr → CallSpec C.P g os rr.1 rr.2) (hl : laidOutB C.P = true) (hT : goodT C.P T = true) (hts : ∀ t ∈ fn.params.toList,t ∈ T)
 (hvars : s.vars = []) (hspec : ∀ ds : List (DataW H),ds.length = fn.params.size → s.fn H ds = { results:=[.lit (.bool true)],args:=ds }) (hres : fn.resultTypes = #[tb]) (htb : C.P.underlying tb = some .bool)
 (hval : ∀ (j : Nat) t v,fn.params[j]? = some t → args[j]? = some v → Value.okWide C.P W .any base t v) (hW : DataW.Whole enc C.P fn.params.toList s.vars false W args.toList ds gs before)
 (hlaw : ∀ vs,TypedAll C.P fn.params.toList vs → pvBulks vs ≤ dBulks (ds ++ gs) → ∃ n outs,pcall C n f (vs.map fun v => .flat (.val v)) = some ([.flat (.val (.bool true))],outs)) :
 Calls C.P f args W fun e W' => ∃ v,e = .returned v ∧ s.post enc C.P fn false true false false W args v W':=by
 have K:=good_kids hl hT
 have hW':=hW
 obtain ⟨p,q,hA,hV,rfl,hfz,hnd⟩:=hW
 rw [hvars] at hV
 have hgs : gs = [] ∧ q = []:=by
  cases gs with
  | nil => exact ⟨rfl,hV⟩
  | cons => exact hV.elim
 obtain ⟨rfl,rfl⟩:=hgs
 have hlen : ∀ {ts : List TypeId} {us : List Value} {ds : List (DataW H)} {ps : List MemPlace},DataW.TrodAll enc C.P W 0 (fun _ => true) true ts us ds ps → us.length = ts.length ∧ ds.length = ts.length:=by
  intro ts
  induction ts with
  | nil =>
    intro us ds ps h
    cases us with
    | nil => cases ds with | nil => exact ⟨rfl,rfl⟩ | cons => exact h.elim
    | cons => exact h.elim
  | cons t ts ih =>
    intro us ds ps h
    cases us with
    | nil => exact h.elim
    | cons u us =>
      cases ds with
      | nil => exact h.elim
      | cons d ds =>
        obtain ⟨_,_,_,hr,_⟩:=h
        obtain ⟨a,b⟩:=ih hr
        exact ⟨by simp [a],by simp [b]⟩
 obtain ⟨hl1,hl2⟩:=hlen hA
 obtain ⟨vs,v1,v2,v3,v4⟩:=trodAll_rep hT K fn.params.toList args.toList ds p hts (fun j t u hj hu hs => (okWide_cells (hval j t u (by simpa using hj) (by simpa using hu))).1 hs) (fun j t u n hj hu hs => (okWide_cells (hval j t u (by simpa using hj) (by simpa using hu))).2 n hs) hA
 obtain ⟨n,outs,hp⟩:=hlaw vs v1 (by simpa using v4)
 have hcs:=pcall_spec hN hprim n f _ _ hp
 have hS : SRel W (fun _ => False) (startSlots 0 (vs.map fun v => OV.flat (.val v))) (fun t => args.toList.getD t Go.undef) (fun _ _ => none):=by
  refine ⟨fun t => ?_,fun t c t' c' k q => (by cases q),fun t c k q => (by cases q)⟩
  rw [get_start,if_pos (Nat.zero_le _),Nat.sub_zero,List.getElem?_map]
  cases hv : vs[t]? with
  | none => exact fun _ => rfl
  | some v =>
    have hlt:=(List.getElem?_eq_some_iff.1 hv).1
    have hu : args.toList[t]? = some (args.toList[t]'(by omega)):=List.getElem?_eq_getElem _
    have hget : args.toList.getD t Go.undef = args.toList[t]'(by omega):=by simp [List.getD,hu]
    show ORep _ _ (.flat (.val v)) (args.toList.getD t Go.undef) _ _
    rw [hget]
    refine .flat _ _ _ (.val _ _ ((v3 t v _ hv hu).move fun k _ _ => ⟨rfl,?_⟩))
    rintro (⟨_,_,q⟩ | q)
    · cases q
    · exact q
 have hcall:=hcs W (fun _ => False) args.toList (fun _ _ => none) (by simp [v2]) (fun k q => q.elim) hS
 have hargs : args.toList.toArray = args:=by simp
 rw [hargs] at hcall
 refine hcall.mono fun e W' ⟨v,he,hG,hco⟩ => ?_
 obtain ⟨N,stO,tmO,ob,k1,_,_,_,k5,k6⟩:=hco.ex
 have hv : v = .bool true:=by
  rw [k6]
  have hrep:=k1.rep (N + 0)
  rw [k5 0 _ rfl] at hrep
  exact ((ORep.flat_inv hrep).1.val_inv).1.bool_inv
 subst hv
 have hsame : ∀ k,k < W.heap.size → W'.heap[k]? = W.heap[k]?:=fun k hk => hG.same k hk fun ⟨_,_,q⟩ => by cases q
 have hsp:=hspec (ds ++ []) (by simp [hl2])
 refine ⟨_,he,ds,[],p ++ [],[],p,[],hW',?_,?_,?_,⟨hG.os,hG.output,fun i hi => ?_⟩,fun h => by cases h⟩
 · rw [hsp,hres]
   refine ⟨[],[],⟨1,?_⟩,rfl,rfl⟩
   simp [DataW.trod,htb,Value.cells]
 · rw [hsp]
   simp only [List.append_nil]
   exact trodAll_stays hT K hsame _ _ _ _ hts hA
 · rw [hsp,hvars]
   exact rfl
 · rw [hsame i hi]
   cases W.heap[i]? with
   | none => trivial
   | some o =>
     cases o with
     | cells c t fr => exact ⟨rfl,rfl,rfl,fun _ _ => rfl⟩
     | map es clock => exact .inr ⟨rfl,rfl⟩
     | _ => exact rfl
end
end Go.Ev

namespace Go.Ev
section
variable {P : Program}
theorem quiet_spec {f : FuncId} {os rs : List PV}
 (h : ∀ (w : World) (us : List Value),us.length = os.length → (∀ (j : Nat) (p : PV),os[j]? = some p → ∃ O,RepV w O p (us.getD j Go.undef)) →
   Calls P f us.toArray w fun e w' => ∃ vs : Nat → Value,e = .returned (resultVal rs.length vs) ∧ w' = w ∧ ∀ (j : Nat) (p : PV),rs[j]? = some p → ∀ w O,RepV w O p (vs j)) :
 CallSpec P f (os.map fun v => .flat (.val v)) (rs.map fun v => .flat (.val v)) []:=by
 intro w Oc us ab hlen hOc hS
 have hl : us.length = os.length:=by simpa using hlen
 refine (h w us hl fun j p hj => ?_).mono fun e w' ⟨vs,he,hw,hr⟩ => ?_
 · have hr:=hS.rep j
   rw [get_start,if_pos (Nat.zero_le _),Nat.sub_zero,List.getElem?_map,hj] at hr
   exact ⟨_,(ORep.flat_inv hr).1.val_inv.1⟩
 · subst hw
   refine ⟨_,he,Grow.refl _ _,⟨⟨us.length,startSlots us.length (rs.map fun v => .flat (.val v)),fun t => vs (t - us.length),fun _ _ => none,?_,fun t c k q => (by cases q),Nat.le_refl _,fun i o hi => (by simp at hi),fun j o hj => ?_,?_⟩⟩⟩
   · refine ⟨fun t => ?_,fun t c t' c' k q => (by cases q),fun t c k q => (by cases q)⟩
     rw [get_start]
     split
     · rename_i hle
       rw [List.getElem?_map]
       cases hv : rs[t - us.length]? with
       | none => exact fun _ => rfl
       | some v => exact .flat _ _ _ (.val _ _ (hr _ _ hv _ _))
     · exact fun _ => rfl
   · rw [get_start,if_pos (by omega),Nat.add_sub_cancel_left,hj]
   · simp [Nat.add_sub_cancel_left]
def ScalarV (x : PV) (u : Value) : Prop := ∀ w O,RepV w O x u
structure NewRow (w w' : World) (xs sp : List PV) (v : Value) : Prop where
 os : w'.os = w.os
 tape : w'.tape = w.tape
 output : w'.output = w.output
 size : w.heap.size ≤ w'.heap.size
 same : ∀ k,k < w.heap.size → w'.heap[k]? = w.heap[k]?
 row : (xs = [] ∧ sp = [] ∧ ∃ A,v = .slice A 0 0) ∨ ∃ (g c : Nat) (cur : Array Value) (e : TypeId) (fr : Nat × Nat),v = .slice (some ⟨g,0,none⟩) xs.length c ∧ w.heap.size ≤ g ∧ w'.heap[g]? = some (.cells cur e fr) ∧ Thawed cur fr ∧
  cur.size = c ∧ xs.length ≤ c ∧ c ≤ 9223372036854775807 ∧ (∀ (i : Nat) (x : PV),xs[i]? = some x → ∃ u,cur[i]? = some u ∧ ScalarV x u) ∧ (∀ (j : Nat) (y : PV),sp[j]? = some y → ∃ u,cur[xs.length + j]? = some u ∧ ScalarV y u)
theorem newRow_spec {f : FuncId} {os xs sp : List PV} (hc : ∀ x ∈ xs,isCell x = true)
 (h : ∀ (w : World) (us : List Value),us.length = os.length → (∀ (j : Nat) (p : PV),os[j]? = some p → ∃ O,RepV w O p (us.getD j Go.undef)) →
   Calls P f us.toArray w fun e w' => ∃ v,e = .returned v ∧ NewRow w w' xs sp v) :
 CallSpec P f (os.map fun v => .flat (.val v)) [.flat (.own none xs sp)] []:=by
 intro w Oc us ab hlen hOc hS
 have hl : us.length = os.length:=by simpa using hlen
 refine (h w us hl fun j p hj => ?_).mono fun e w' ⟨v,he,hr⟩ => ?_
 · have hr:=hS.rep j
   rw [get_start,if_pos (Nat.zero_le _),Nat.sub_zero,List.getElem?_map,hj] at hr
   exact ⟨_,(ORep.flat_inv hr).1.val_inv.1⟩
 · have hG : Grow w w' ab:=⟨hr.os,hr.tape,hr.output,hr.size,fun k hk _ => hr.same k hk⟩
   have get1 : ∀ t,t ≠ us.length → (startSlots us.length [OV.flat (.own none xs sp)]).get t = .dead:=by
    intro t ht
    rw [get_start]
    split
    · rename_i hle
      have : t - us.length ≠ 0:=by omega
      cases hk : t - us.length with
      | zero => omega
      | succ k => rfl
    · rfl
   have get2 : (startSlots us.length [OV.flat (.own none xs sp)]).get us.length = .home (.flat (.own none xs sp)):=by
    rw [get_start,if_pos (Nat.le_refl _),Nat.sub_self]
    rfl
   have hcells : ∀ (i : Nat) (x : PV),xs[i]? = some x → x.cells = [x]:=fun i x hi => cells_of_isCell (hc x (List.mem_of_getElem? hi))
   rcases hr.row with ⟨rfl,rfl,A,rfl⟩ | ⟨g,c,cur,ety,fr,rfl,hg,hh,ht,hs,hlc,hcL,hx,hy⟩
   · refine ⟨_,he,hG,⟨⟨us.length,startSlots us.length [.flat (.own none [] [])],fun _ => .slice A 0 0,fun _ _ => none,⟨fun t => ?_,fun t c t' c' k q => (by cases q),fun t c k q => (by cases q)⟩,fun t c k q => (by cases q),Nat.le_refl _,fun i o hi => (by simp at hi),fun j o hj => ?_,?_⟩⟩⟩
     · by_cases htl : t = us.length
       · subst htl
         rw [get2]
         exact .flat _ _ _ (.ownE none A)
       · rw [get1 t htl]
         exact fun _ => rfl
     · cases j with
       | zero => simp at hj;subst hj;exact get2
       | succ j => simp at hj
     · rfl
   · have hgl : g < w'.heap.size:=(Array.getElem?_eq_some_iff.1 hh).1
     have hspL : xs.length + sp.length ≤ c:=by
      cases hk : sp.length with
      | zero => omega
      | succ k =>
        obtain ⟨u,hu,_⟩:=hy k sp[k] (by simp [hk])
        have:=(Array.getElem?_eq_some_iff.1 hu).1
        omega
     have hob : ∀ (t : Nat) (c : Option Nat) (k : Nat),(if t = us.length ∧ c = none then some g else none) = some k → t = us.length ∧ c = none ∧ k = g:=by
      intro t c k q
      split at q
      · rename_i h1
        cases q
        exact ⟨h1.1,h1.2,rfl⟩
      · cases q
     refine ⟨_,he,hG,⟨⟨us.length,startSlots us.length [.flat (.own none xs sp)],fun _ => .slice (some ⟨g,0,none⟩) xs.length c,fun t c => if t = us.length ∧ c = none then some g else none,⟨fun t => ?_,fun t c t' c' k q q' => ?_,fun t c k q => ?_⟩,fun t c k q => ?_,Nat.le_refl _,fun i o hi => (by simp at hi),fun j o hj => ?_,?_⟩⟩⟩
     · by_cases htl : t = us.length
       · subst htl
         rw [get2]
         show ORep w' _ (.flat (.own none xs sp)) _ (if us.length = us.length ∧ (none : Option Nat) = none then some g else none) (fun j => if us.length = us.length ∧ some j = none then some g else none)
         have e1 : (if us.length = us.length ∧ (none : Option Nat) = none then some g else none) = some g:=by simp
         have e2 : (fun j : Nat => if us.length = us.length ∧ some j = none then some g else none) = fun _ => none:=by funext j;simp
         rw [e1,e2]
         refine .flat _ _ _ (.own none xs sp g c cur ety fr (fun i _ => cur.getD i Go.undef) ⟨hh,ht,by simpa [shN] using Nat.le_of_eq hs.symm,hlc,fun i x hi => hc x (List.mem_of_getElem? hi),fun i x j y hi hj => ?_,fun i x j y hi hj => ?_,fun i x j y hi hj => ?_,fun j y hj => ?_,hcL,hspL⟩)
         · rw [hcells i x hi] at hj
           cases j with
           | zero => simp at hj;subst hj;exact hc x (List.mem_of_getElem? hi)
           | succ j => simp at hj
         · rw [hcells i x hi] at hj
           cases j with
           | zero =>
             obtain ⟨u,hu,_⟩:=hx i x hi
             simp [shN,Array.getD_eq_getD_getElem?,hu]
           | succ j => simp at hj
         · rw [hcells i x hi] at hj
           cases j with
           | zero =>
             simp at hj
             subst hj
             obtain ⟨u,hu,hs⟩:=hx i x hi
             simp only [Array.getD_eq_getD_getElem?,hu,Option.getD_some]
             exact hs _ _
           | succ j => simp at hj
         · obtain ⟨u,hu,hs⟩:=hy j y hj
           exact ⟨u,by simpa [shN] using hu,hs _ _⟩
       · rw [get1 t htl]
         intro c
         simp [htl]
     · obtain ⟨a1,a2,_⟩:=hob _ _ _ q
       obtain ⟨b1,b2,_⟩:=hob _ _ _ q'
       exact ⟨a1.trans b1.symm,a2.trans b2.symm⟩
     · obtain ⟨_,_,rfl⟩:=hob _ _ _ q
       exact ⟨fun ho => absurd (hOc _ ho) (by omega),hgl⟩
     · obtain ⟨_,_,rfl⟩:=hob _ _ _ q
       exact .inr hg
     · cases j with
       | zero => simp at hj;subst hj;exact get2
       | succ j => simp at hj
     · rfl
end
def primCompare : List OV → Option (List OV × List OV)
 | [.flat (.val (.str a)),.flat (.val (.str b))] => some ([.flat (.val (.int .i64 (Lib.compareBytes a b)))],[])
 | _ => none
theorem isByte_inv {x : PV} (h : isByte x = true) : x = .int .u8 x.toI:=by
 unfold isByte at h
 split at h
 · rfl
 · cases h
theorem isByte_cell {x : PV} (h : isByte x = true) : isCell x = true:=by
 rw [isByte_inv h];rfl
theorem bytes_read {w : World} {O : Nat → Prop} {xs : List PV} {u : Value} (hb : xs.all isByte = true) (h : RepV w O (.sl none xs) u) :
 ∃ A c,u = .slice A xs.length c ∧ xs.length ≤ c ∧ (A = none → c = 0) ∧ ∀ a,A = some a → ∀ i,i < xs.length → w.cell? (a.add i) = some (.int .u8 ((xs.map PV.toI).getD i 0)):=by
 obtain ⟨A,c,h1,h2,h3,h4,h5⟩:=h.sl_inv
 refine ⟨A,c,h1,h2,h3,fun a ha i hi => ?_⟩
 have hx : xs[i]? = some xs[i]:=List.getElem?_eq_getElem hi
 have hbx : isByte xs[i] = true:=List.all_eq_true.1 hb _ (List.getElem_mem hi)
 have hc:=cells_of_isCell (isByte_cell hbx)
 obtain ⟨_,a',z,e1,_,e2,e3⟩:=h5 i xs[i] 0 xs[i] hx (by rw [hc];rfl)
 rw [ha] at e1
 cases e1
 rw [isByte_inv hbx] at e3
 have:=e3.int_inv
 subst this
 simp only [shN,Nat.mul_one,Nat.add_zero] at e2
 rw [e2]
 simp [List.getD,hx]
theorem bytes_scalar {xs : List PV} (hb : xs.all isByte = true) (i : Nat) (x : PV) (hi : xs[i]? = some x) : ((xs.map PV.toI).map (Value.int .u8))[i]? = some (Value.int .u8 x.toI) ∧ ScalarV x (Value.int .u8 x.toI):=by
 refine ⟨by simp [hi],fun w O => ?_⟩
 have:=isByte_inv (List.all_eq_true.1 hb x (List.mem_of_getElem? hi))
 rw [this]
 exact .int _ _
theorem newRow_of_owns {w w' : World} {xs : List PV} {v : Value} {t : TypeId} (hb : xs.all isByte = true) (ho : w'.ownsRow w.heap.size t 1 v xs.length ((xs.map PV.toI).map (Value.int .u8))) (h : RowKit.Below w.heap.size w w') : NewRow w w' xs [] v:=by
 refine ⟨h.os,h.tape,h.output,h.size,h.block,?_⟩
 rcases ho.2 with ⟨rfl,hn⟩ | ⟨g,cap,cur,rfl,hg,hh,hn,hm,hs,ht⟩
 · left
   cases xs with
   | nil => exact ⟨rfl,rfl,_,rfl⟩
   | cons => simp at hn
 · right
   refine ⟨g,cap,cur,t,(0,0),rfl,hg,hh,thawed0 _,by simpa using hs,hn,hm,fun i x hi => ?_,fun j y hj => by simp at hj⟩
   obtain ⟨h1,h2⟩:=bytes_scalar hb i x hi
   refine ⟨_,?_,h2⟩
   rw [← ht,List.getElem?_take] at h1
   split at h1
   · simpa using h1
   · cases h1
def primClone : List OV → Option (List OV × List OV)
 | [.flat (.val (.sl none xs))] => match xs.all isByte && Nat.ble xs.length 140737488355328 with
   | true => some ([.flat (.own none xs [])],[])
   | false => none
 | _ => none
theorem primClone_spec {P : Program} {f : FuncId} {t : TypeId} (hn : ∀ (n c : Nat) (w : World),Calls P f #[.slice none n c] w fun e w' => e = .returned (.slice none 0 0) ∧ w' = w)
 (ha : ∀ (a : Addr) (n c : Nat) (xs : List Int) (w : World),xs.length = n → n ≤ 140737488355328 → (∀ i,i < n → w.cell? (a.add i) = some (.int .u8 (xs.getD i 0))) →
   Calls P f #[.slice (some a) n c] w fun e w' => ∃ v',e = .returned v' ∧ w'.ownsRow w.heap.size t 1 v' n (xs.map (Value.int .u8)) ∧ RowKit.Below w.heap.size w w')
 {os : List OV} {rr : List OV × List OV} (hp : primClone os = some rr) : CallSpec P f os rr.1 rr.2:=by
 unfold primClone at hp
 split at hp
 · rename_i xs
   split at hp
   · rename_i hc
     cases hp
     simp only [Bool.and_eq_true] at hc
     obtain ⟨hb,hl⟩:=hc
     rw [Nat.ble_eq] at hl
     refine newRow_spec (os:=[.sl none xs]) (fun x hx => isByte_cell (List.all_eq_true.1 hb x hx)) fun w us hlen hr => ?_
     match us,hlen with
     | [u],_ =>
       obtain ⟨O,hu⟩:=hr 0 _ rfl
       obtain ⟨A,c,rfl,h2,h3,h4⟩:=bytes_read hb hu
       cases A with
       | none =>
         have : c = 0:=h3 rfl
         have hx : xs = []:=List.length_eq_zero_iff.1 (by omega)
         subst hx
         refine (hn _ _ w).mono fun e w' ⟨he,hw⟩ => ?_
         subst hw
         exact ⟨_,he,rfl,rfl,rfl,Nat.le_refl _,fun _ _ => rfl,.inl ⟨rfl,rfl,none,rfl⟩⟩
       | some a =>
         refine (ha a xs.length c (xs.map PV.toI) w (by simp) hl (h4 a rfl)).mono fun e w' ⟨v',he,ho,hB⟩ => ?_
         exact ⟨v',he,newRow_of_owns hb ho hB⟩
   · cases hp
 · cases hp
end Go.Ev

namespace Go.Ev
def fieldAt (P : Program) (t : TypeId) (i : Nat) : Option (TypeId × Nat × Nat):=match P.underlying t with
 | some (.struct fs) => (fs.toList[i]?).map fun f => (f.type,f.offset,P.cellsOf f.type)
 | _ => none
def isStruct (P : Program) (t : TypeId) : Bool:=match P.underlying t with
 | some (.struct _) => true
 | _ => false
section
variable {P : Program} {d : Nat} {t : TypeId} {cs : List PV} {v : PV}
theorem TypedC.field {i : Nat} {ty : TypeId} {off n : Nat} (h : TypedC P d t cs) (hf : fieldAt P t i = some (ty,off,n)) : TypedC P (d - 1) ty ((cs.drop off).take n):=by
 cases d with
 | zero => exact h.elim
 | succ d =>
   unfold fieldAt at hf
   unfold TypedC at h
   split at hf
   · rename_i fs hu
     rw [hu] at h
     cases hg : fs.toList[i]? with
     | none => rw [hg] at hf;cases hf
     | some f =>
       rw [hg] at hf
       cases hf
       exact h.2 f (List.mem_of_getElem? hg)
   · cases hf
theorem TypedC.len (h : TypedC P d t cs) (hs : isStruct P t = true) : cs.length = P.cellsOf t:=by
 cases d with
 | zero => exact h.elim
 | succ d =>
   unfold isStruct at hs
   unfold TypedC at h
   split at hs
   · rename_i fs hu
     rw [hu] at h
     exact h.1
   · cases hs
theorem TypedC.int {k : IntKind} (h : TypedC P d t cs) (hu : P.underlying t = some (.int k)) : ∃ n,cs = [.int k n] ∧ (Lit.int k n).wf = true:=by
 cases d with
 | zero => exact h.elim
 | succ d => unfold TypedC at h;rw [hu] at h;exact h
theorem TypedC.bool (h : TypedC P d t cs) (hu : P.underlying t = some .bool) : ∃ b,cs = [.bool b]:=by
 cases d with
 | zero => exact h.elim
 | succ d => unfold TypedC at h;rw [hu] at h;exact h
theorem TypedC.slice {e : TypeId} {sh : Option Nat} (h : TypedC P d t cs) (hu : P.underlying t = some (.slice e)) (hs : tShape P e = some sh) : ∃ xs,cs = [.sl sh xs] ∧ xs.length ≤ maxLen ∧ ∀ x ∈ xs,pvFits sh x = true ∧ TypedC P (d - 1) e x.cells:=by
 cases d with
 | zero => exact h.elim
 | succ d =>
   unfold TypedC at h
   rw [hu] at h
   obtain ⟨sh',xs,h1,h2,h3,h4⟩:=h
   rw [hs] at h2
   cases h2
   exact ⟨xs,h1,h3,h4⟩
theorem Typed.cell {x : PV} (h : Typed P t v) (hs : tShape P t = some none) (hx : v.cells = [x]) : v = x:=by
 obtain ⟨d,sh,h1,h2,h3⟩:=h
 rw [hs] at h1
 cases h1
 cases v <;> first | (cases h2;done) | (simp [PV.cells] at hx;exact hx)
theorem Typed.get (h : Typed P t v) : ∃ d,TypedC P d t v.cells:=⟨h.choose,h.choose_spec.choose_spec.2.2⟩
theorem fits_agg {n : Nat} (h : pvFits (some n) v = true) : v = .agg v.cells:=by
 cases v <;> first | rfl | (cases h;done)
theorem TypedAll.nil_inv {vs : List PV} (h : TypedAll P [] vs) : vs = []:=by cases h;rfl
theorem TypedAll.cons_inv {ts : List TypeId} {vs : List PV} (h : TypedAll P (t :: ts) vs) : ∃ v r,vs = v :: r ∧ Typed P t v ∧ TypedAll P ts r:=by
 cases h with
 | cons _ v _ r h1 h2 => exact ⟨v,r,rfl,h1,h2⟩
end
end Go.Ev

namespace Go.Ev
theorem setCell_heap (w : World) (g o : Nat) (cur : Array Value) (v : Value) (t : TypeId) (fr : Nat × Nat) (hg : w.heap[g]? = some (.cells cur t fr)) : (w.setCell ⟨g,o,none⟩ v).heap[g]? = some (.cells (cur.setIfInBounds o v) t fr):=by
 have hlt : g < w.heap.size:=(Array.getElem?_eq_some_iff.1 hg).1
 have hv : w.heap[g] = .cells cur t fr:=(Array.getElem?_eq_some_iff.1 hg).2
 unfold World.setCell
 rw [Array.getElem?_eq_getElem (by simpa using hlt),Array.getElem_modify]
 simp [hv]
theorem alloc_heap (w : World) (o : Obj) : (w.alloc o).heap[w.heap.size]? = some o:=by
 show (w.heap.push o)[w.heap.size]? = some o
 rw [Array.getElem?_push]
 simp
structure RowsOf (w : World) (b N : Nat) (A : Nat → Option Addr) (n cp g : Nat → Nat) : Prop where
 cell : ∀ j,j < N → w.cell? ⟨b,j,none⟩ = some (.slice (A j) (n j) (cp j))
 small : ∀ j,j < N → n j ≤ cp j ∧ cp j ≤ 9223372036854775807
 at_ : ∀ j,j < N → 0 < cp j → A j = some ⟨g j,0,none⟩ ∧ g j ≠ b ∧ ∃ cu t fr,w.heap[g j]? = some (.cells cu t fr) ∧ Thawed cu fr ∧ cp j ≤ cu.size
 apart : ∀ i j,i < N → j < N → 0 < cp i → 0 < cp j → g i = g j → i = j
structure Written (w wr : World) (N : Nat) (cp g : Nat → Nat) (f : Nat → Nat) : Prop where
 os : wr.os = w.os
 tape : wr.tape = w.tape
 output : wr.output = w.output
 size : wr.heap.size = w.heap.size
 same : ∀ k,(∀ j,j < N → 0 < cp j → k ≠ g j) → wr.heap[k]? = w.heap[k]?
 row : ∀ j,j < N → 0 < cp j → ∃ cu t fr,wr.heap[g j]? = some (.cells cu t fr) ∧ Thawed cu fr ∧ cp j ≤ cu.size ∧ ∀ q,q < f j → q < cp j → cu[q]? = some (.int .u8 (IntKind.u8.wrap ((j : Int) + 1)))
section
variable {w wr : World} {b N : Nat} {A : Nat → Option Addr} {n cp g f f' : Nat → Nat}
theorem Written.start (h : RowsOf w b N A n cp g) : Written w w N cp g (fun _ => 0) :=
 ⟨rfl,rfl,rfl,rfl,fun _ _ => rfl,fun j hj hc => by
   obtain ⟨_,_,cu,t,fr,h1,h2,h3⟩:=h.at_ j hj hc
   exact ⟨cu,t,fr,h1,h2,h3,fun q hq => absurd hq (Nat.not_lt_zero _)⟩⟩
theorem Written.weaken (h : Written w wr N cp g f) (hf : ∀ j,j < N → 0 < cp j → f' j ≤ f j ∨ cp j ≤ f j) : Written w wr N cp g f' :=
 ⟨h.os,h.tape,h.output,h.size,h.same,fun j hj hc => by
   obtain ⟨cu,t,fr,h1,h2,h3,h4⟩:=h.row j hj hc
   exact ⟨cu,t,fr,h1,h2,h3,fun q hq hqc => h4 q (by rcases hf j hj hc with h | h <;> omega) hqc⟩⟩
theorem Written.cell (h : Written w wr N cp g f) (hR : RowsOf w b N A n cp g) {j : Nat} (hj : j < N) : wr.cell? ⟨b,j,none⟩ = some (.slice (A j) (n j) (cp j)):=by
 rw [cell_same (w:=w) (h.same b fun j hj hc e => (hR.at_ j hj hc).2.1 e.symm)]
 exact hR.cell j hj
theorem Written.put (h : Written w wr N cp g f) (hR : RowsOf w b N A n cp g) {i k : Nat} (hi : i < N) (hk : k < cp i) (hf : f i = k) :
 Written w (wr.setCell ⟨g i,k,none⟩ (.int .u8 (IntKind.u8.wrap ((i : Int) + 1)))) N cp g (fun j => if j = i then k + 1 else f j):=by
 obtain ⟨cu,t,fr,h1,h2,h3,h4⟩:=h.row i hi (by omega)
 have hne : ∀ q,q ≠ g i → (wr.setCell ⟨g i,k,none⟩ (.int .u8 (IntKind.u8.wrap ((i : Int) + 1)))).heap[q]? = wr.heap[q]?:=fun q hq => by
  simp [World.setCell,Array.getElem?_modify,Ne.symm hq]
 refine ⟨h.os,h.tape,h.output,by simp [World.setCell,h.size],fun q hq => ?_,fun j hj hc => ?_⟩
 · rw [hne q (hq i hi (by omega))]
   exact h.same q hq
 · by_cases hji : j = i
   · subst hji
     refine ⟨_,t,fr,setCell_heap wr (g j) k cu _ t fr h1,h2.size (by simp),by simpa using h3,fun q hq hqc => ?_⟩
     rw [if_pos rfl] at hq
     rw [Array.getElem?_setIfInBounds]
     by_cases hqk : k = q
     · subst hqk
       rw [if_pos rfl,if_pos (by omega)]
     · rw [if_neg hqk]
       exact h4 q (by omega) hqc
   · obtain ⟨cu',t',fr',g1,g2,g3,g4⟩:=h.row j hj hc
     have hgj : g j ≠ g i:=fun e => hji (hR.apart j i hj hi hc (by omega) e)
     exact ⟨cu',t',fr',by rw [hne _ hgj];exact g1,g2,g3,fun q hq hqc => g4 q (by rw [if_neg hji] at hq;exact hq) hqc⟩
theorem Written.thaw (h : Written w wr N cp g f) {i k : Nat} (hi : i < N) (hk : k < cp i) : (∃ v,wr.cell? ⟨g i,k,none⟩ = some v) ∧ wr.frozen? ⟨g i,k,none⟩ = false:=by
 obtain ⟨cu,t,fr,h1,h2,h3,h4⟩:=h.row i hi (by omega)
 constructor
 · exact ⟨cu[k]'(by omega),by
    have : k < cu.size:=by omega
    simp [World.cell?,h1,this]⟩
 · simp only [World.frozen?,h1]
   have:=h2.out k (by omega)
   simp only [Bool.and_eq_false_iff,decide_eq_false_iff_not]
   omega
theorem Written.byte (h : Written w wr N cp g cp) {i k : Nat} (hi : i < N) (hk : k < cp i) : wr.cell? ⟨g i,k,none⟩ = some (.int .u8 (IntKind.u8.wrap ((i : Int) + 1))):=by
 obtain ⟨cu,t,fr,h1,h2,h3,h4⟩:=h.row i hi (by omega)
 simp only [World.cell?,h1]
 exact h4 k hk hk
end
def primLent : List OV → Option (List OV × List OV)
 | [.flat (.val (.sl none xs))] => match xs.all isByte && Nat.ble (xs.length + 1) 140737488355328 with
   | true => some ([.flat (.own none xs [.int .u8 77])],[])
   | false => none
 | _ => none
theorem map_toI {xs : List PV} (hb : xs.all isByte = true) : (xs.map PV.toI).map (PV.int .u8) = xs:=by
 induction xs with
 | nil => rfl
 | cons x r ih =>
   simp only [List.all_cons,Bool.and_eq_true] at hb
   simp only [List.map_cons]
   rw [ih hb.2,← isByte_inv hb.1]
theorem primLent_spec {P : Program} {f : FuncId} (hn : ∀ w : World,Calls P f #[.slice none 0 0] w fun e w' => ∃ v',e = .returned v' ∧ NewRow w w' [] [.int .u8 77] v')
 (ha : ∀ (a : Addr) (n c : Nat) (xs : List Int) (w : World),xs.length = n → n + 1 ≤ 140737488355328 → (∀ i,i < n → w.cell? (a.add i) = some (.int .u8 (xs.getD i 0))) →
   Calls P f #[.slice (some a) n c] w fun e w' => ∃ v',e = .returned v' ∧ NewRow w w' (xs.map (PV.int .u8)) [.int .u8 77] v')
 {os : List OV} {rr : List OV × List OV} (hp : primLent os = some rr) : CallSpec P f os rr.1 rr.2:=by
 unfold primLent at hp
 split at hp
 · rename_i xs
   split at hp
   · rename_i hc
     cases hp
     simp only [Bool.and_eq_true] at hc
     obtain ⟨hb,hl⟩:=hc
     rw [Nat.ble_eq] at hl
     refine newRow_spec (os:=[.sl none xs]) (fun x hx => isByte_cell (List.all_eq_true.1 hb x hx)) fun w us hlen hr => ?_
     match us,hlen with
     | [u],_ =>
       obtain ⟨O,hu⟩:=hr 0 _ rfl
       obtain ⟨A,c,rfl,h2,h3,h4⟩:=bytes_read hb hu
       cases A with
       | none =>
         have : c = 0:=h3 rfl
         subst this
         have hx : xs = []:=List.length_eq_zero_iff.1 (by omega)
         subst hx
         exact hn w
       | some a =>
         have:=ha a xs.length c (xs.map PV.toI) w (by simp) hl (h4 a rfl)
         rw [map_toI hb] at this
         exact this
   · cases hp
 · cases hp
def isRowB : FV → Bool
 | .own none _ _ => true
 | .nil none => true
 | _ => false
def primOwned : List OV → Option (List OV × List OV)
 | [.cont .nest cs] => match cs.all isRowB && Nat.ble cs.length 1000000 with
   | true => some ([.flat (.val (.bool true))],[.flat .gone])
   | false => none
 | _ => none
def rowA : Value → Option Addr
 | .slice A _ _ => A
 | _ => none
def rowN : Value → Nat
 | .slice _ n _ => n
 | _ => 0
def rowC : Value → Nat
 | .slice _ _ c => c
 | _ => 0
def rowG : Value → Nat
 | .slice (some a) _ _ => a.block
 | _ => 0
theorem rowB_rep {w : World} {O : Nat → Prop} {f : FV} {u : Value} {m : Option Nat} (hf : isRowB f = true) (h : FRep w O f u m) : u = .slice (rowA u) (rowN u) (rowC u) ∧ rowN u ≤ rowC u ∧ rowC u ≤ 9223372036854775807 ∧
 (0 < rowC u → rowA u = some ⟨rowG u,0,none⟩ ∧ m = some (rowG u) ∧ ∃ cu t fr,w.heap[rowG u]? = some (.cells cu t fr) ∧ Thawed cu fr ∧ rowC u ≤ cu.size):=by
 cases h with
 | val => cases hf
 | nil => exact ⟨rfl,Nat.le_refl _,Nat.zero_le _,fun h => absurd h (Nat.lt_irrefl _)⟩
 | ownE => exact ⟨rfl,Nat.le_refl _,Nat.zero_le _,fun h => absurd h (Nat.lt_irrefl _)⟩
 | own sh xs sp b c cur e fr us h =>
   have hsh : sh = none:=by
    cases sh with
    | none => rfl
    | some => cases hf
   subst hsh
   exact ⟨rfl,h.len,h.capL,fun _ => ⟨rfl,rfl,cur,e,fr,h.heap,h.thaw,by
    have:=h.size
    simp only [shN,Nat.mul_one] at this
    exact this⟩⟩
 | gone => cases hf
theorem primOwned_spec {P : Program} {f : FuncId} (hn : ∀ (A : Option Addr) (w : World),Calls P f #[.slice A 0 0] w fun e w' => e = .returned (.bool true) ∧ w'.heap = w.heap ∧ w'.os = w.os ∧ w'.tape = w.tape ∧ w'.output = w.output)
 (ha : ∀ (w : World) (b N c0 : Nat) (A : Nat → Option Addr) (n cp g : Nat → Nat),RowsOf w b N A n cp g → N ≤ 4611686018427387904 →
   Calls P f #[.slice (some ⟨b,0,none⟩) N c0] w fun e w' => e = .returned (.bool true) ∧ Written w w' N cp g cp)
 {os : List OV} {rr : List OV × List OV} (hp : primOwned os = some rr) : CallSpec P f os rr.1 rr.2:=by
 unfold primOwned at hp
 split at hp
 · rename_i cs
   split at hp
   · rename_i hc
     cases hp
     simp only [Bool.and_eq_true] at hc
     obtain ⟨hb,hl⟩:=hc
     rw [Nat.ble_eq] at hl
     intro w Oc us ab hlen hOc hS
     match us,hlen with
     | [u],_ =>
       have out : ∀ w' : World,Grow w w' ab → CallOut w w' Oc ab [u] [.flat (.val (.bool true))] [.flat .gone] (.bool true):=by
        intro w' _
        refine ⟨⟨1,startSlots 1 [.flat (.val (.bool true))],fun _ => .bool true,fun _ _ => none,⟨fun t => ?_,fun t c t' c' k q => (by cases q),fun t c k q => (by cases q)⟩,fun t c k q => (by cases q),Nat.le_refl _,fun i o hi hg => ?_,fun j o hj => ?_,rfl⟩⟩
        · rw [get_start]
          split
          · cases ht : t - 1 with
            | zero => exact .flat _ _ _ (.val _ _ (.bool true))
            | succ k => exact fun _ => rfl
          · exact fun _ => rfl
        · cases i with
          | zero => simp at hi;exact absurd hi.symm hg
          | succ i => simp at hi
        · cases j with
          | zero => simp at hj;subst hj;rfl
          | succ j => simp at hj
       have hr:=hS.rep 0
       have hr : ORep w (ab.off Oc) (.cont .nest cs) u (ab 0 none) (fun j => ab 0 (some j)):=hr
       generalize hm : ab 0 none = m at hr
       generalize hβ : (fun j => ab 0 (some j)) = β at hr
       cases hr with
       | nestE A =>
         refine (hn A w).mono fun e w' ⟨he,h1,h2,h3,h4⟩ => ?_
         have hG : Grow w w' ab:=⟨h2,h3,h4,by rw [h1];exact Nat.le_refl _,fun k _ _ => by rw [h1]⟩
         exact ⟨_,he,hG,out w' hG⟩
       | nest _ b c cur e fr _ hbk ht hcs hlc hk hg hcell =>
         have hv : ∀ j,j < cs.length → ∃ u,cur[j]? = some u ∧ isRowB (cs.getD j .gone) = true ∧ FRep w (ab.off Oc) (cs.getD j .gone) u (β j):=by
          intro j hj
          have hf : cs[j]? = some cs[j]:=List.getElem?_eq_getElem hj
          obtain ⟨u,h1,h2⟩:=hcell.rep j _ hf
          have e1 : cs.getD j .gone = cs[j]:=by simp [List.getD,hf]
          rw [e1]
          exact ⟨u,h1,List.all_eq_true.1 hb _ (List.getElem_mem hj),h2⟩
         let val : Nat → Value:=fun j => cur.getD j Go.undef
         have hval : ∀ j,j < cs.length → cur[j]? = some (val j) ∧ val j = .slice (rowA (val j)) (rowN (val j)) (rowC (val j)) ∧ rowN (val j) ≤ rowC (val j) ∧ rowC (val j) ≤ 9223372036854775807 ∧
          (0 < rowC (val j) → rowA (val j) = some ⟨rowG (val j),0,none⟩ ∧ ab 0 (some j) = some (rowG (val j)) ∧ ∃ cu t fr,w.heap[rowG (val j)]? = some (.cells cu t fr) ∧ Thawed cu fr ∧ rowC (val j) ≤ cu.size):=by
          intro j hj
          obtain ⟨u,h1,h2,h3⟩:=hv j hj
          have e1 : val j = u:=by simp [val,Array.getD_eq_getD_getElem?,h1]
          rw [e1]
          obtain ⟨g1,g2,g3,g4⟩:=rowB_rep h2 h3
          refine ⟨h1,g1,g2,g3,fun hc => ?_⟩
          obtain ⟨k1,k2,k3⟩:=g4 hc
          rw [← hβ] at k2
          exact ⟨k1,k2,k3⟩
         have hR : RowsOf w b cs.length (fun j => rowA (val j)) (fun j => rowN (val j)) (fun j => rowC (val j)) (fun j => rowG (val j)):=by
          refine ⟨fun j hj => ?_,fun j hj => ⟨(hval j hj).2.2.1,(hval j hj).2.2.2.1⟩,fun j hj hc => ?_,fun i j hi hj hci hcj e => ?_⟩
          · have h1:=(hval j hj).1
            simp only [World.cell?,hbk]
            rw [← (hval j hj).2.1]
            simpa using h1
          · obtain ⟨k1,k2,k3⟩:=(hval j hj).2.2.2.2 hc
            refine ⟨k1,fun e => ?_,k3⟩
            have hmb : ab 0 none = some b:=hm
            rw [e] at k2
            have:=(hS.inj _ _ _ _ _ hmb k2).2
            cases this
          · obtain ⟨_,k2,_⟩:=(hval i hi).2.2.2.2 hci
            obtain ⟨_,l2,_⟩:=(hval j hj).2.2.2.2 hcj
            rw [e] at k2
            have:=(hS.inj _ _ _ _ _ k2 l2).2
            cases this
            rfl
         refine (ha w b cs.length c _ _ _ _ hR (by omega)).mono fun e' w' ⟨he,hW⟩ => ?_
         have hG : Grow w w' ab:=⟨hW.os,hW.tape,hW.output,by rw [hW.size];exact Nat.le_refl _,fun k _ hk => hW.same k fun j hj hc e => hk ⟨0,some j,by rw [((hval j hj).2.2.2.2 hc).2.1,e]⟩⟩
         exact ⟨_,he,hG,out w' hG⟩
   · cases hp
 · cases hp
theorem bytes_string {P : Program} {w : World} {xs : List PV} {A : Option Addr} {c : Nat} (hb : xs.all isByte = true) (hA : A = none → c = 0) (hc : xs.length ≤ c)
 (h : ∀ a,A = some a → ∀ i,i < xs.length → w.cell? (a.add i) = some (.int .u8 ((xs.map PV.toI).getD i 0))) :
 ∃ s : ByteArray,(Conv.bytesToString (.slice A xs.length c)).run P w = .ok (.string s) w ∧ s.toList = xs.map u8Of:=by
 cases A with
 | none =>
   have : c = 0:=hA rfl
   have hx : xs = []:=List.length_eq_zero_iff.1 (by omega)
   subst hx
   exact ⟨.empty,by simp [Conv.bytesToString],by simp [ByteArray.toList_eq]⟩
 | some a =>
   have hl:=run_loadCells_list (P:=P) w a ((xs.map PV.toI).map (Value.int .u8)) (fun j v hj => by
    rw [List.getElem?_map,Option.map_eq_some_iff] at hj
    obtain ⟨n,hn,rfl⟩:=hj
    have hjl : j < xs.length:=by simpa using (List.getElem?_eq_some_iff.1 hn).1
    rw [h a rfl j hjl]
    simp [List.getD,hn])
   simp only [List.length_map] at hl
   have hb':=run_bytesToString (P:=P) w a xs.length c (xs.map PV.toI) hl
   refine ⟨_,hb',?_⟩
   rw [ByteArray.toList_eq,fold_push]
   have : ∀ l : List PV,l.all isByte = true → (l.map PV.toI).map (fun n => UInt8.ofNat n.toNat) = l.map u8Of:=by
    intro l
    induction l with
    | nil => intro _;rfl
    | cons x r ih =>
      intro hl
      simp only [List.all_cons,Bool.and_eq_true] at hl
      simp only [List.map_cons]
      rw [ih hl.2,isByte_inv hl.1]
      rfl
   rw [this xs hb]
   simp
def primKept : List OV → Option (List OV × List OV)
 | [.flat (.own none ys (s :: sp)),.flat (.val (.sl none xs))] => match ys.all isByte && xs.all isByte && isByte s && Nat.ble (xs.length + 1) 140737488355328 with
   | true => some ([.flat (.val (.bool ((ys.map u8Of == xs.map u8Of) && (s.toI == 77))))],[.flat (.own none ys (s :: sp)),.flat .gone])
   | false => none
 | _ => none
theorem primKept_spec {P : Program} {f : FuncId}
 (hno : ∀ (A0 : Option Addr) (n c : Nat) (A1 : Option Addr) (m c1 : Nat) (s0 s1 : ByteArray) (w : World),(Conv.bytesToString (.slice A0 n c)).run P w = .ok (.string s0) w → (Conv.bytesToString (.slice A1 m c1)).run P w = .ok (.string s1) w → (s0.toList == s1.toList) = false →
   Calls P f #[.slice A0 n c,.slice A1 m c1] w fun e w' => e = .returned (.bool false) ∧ w' = w)
 (hyes : ∀ (b n c : Nat) (A1 : Option Addr) (m c1 : Nat) (s0 s1 : ByteArray) (z : Int) (w : World),(Conv.bytesToString (.slice (some ⟨b,0,none⟩) n c)).run P w = .ok (.string s0) w → (Conv.bytesToString (.slice A1 m c1)).run P w = .ok (.string s1) w → (s0.toList == s1.toList) = true →
   m + 1 ≤ c → m + 1 ≤ 140737488355328 → w.cell? ⟨b,m,none⟩ = some (.int .u8 z) → Calls P f #[.slice (some ⟨b,0,none⟩) n c,.slice A1 m c1] w fun e w' => e = .returned (.bool (z == 77)) ∧ w' = w)
 {os : List OV} {rr : List OV × List OV} (hp : primKept os = some rr) : CallSpec P f os rr.1 rr.2:=by
 unfold primKept at hp
 split at hp
 · rename_i ys s sp xs
   split at hp
   · rename_i hc
     cases hp
     simp only [Bool.and_eq_true] at hc
     obtain ⟨⟨⟨hby,hbx⟩,hs⟩,hl⟩:=hc
     rw [Nat.ble_eq] at hl
     intro w Oc us ab hlen hOc hS
     match us,hlen with
     | [u0,u1],_ =>
       have out : ∀ r : Bool,CallOut w w Oc ab [u0,u1] [.flat (.val (.bool r))] [.flat (.own none ys (s :: sp)),.flat .gone] (.bool r):=by
        intro r
        refine ⟨⟨2,startSlots 0 [.flat (.own none ys (s :: sp)),.flat (.val (.sl none xs)),.flat (.val (.bool r))],fun t => if t = 2 then .bool r else [u0,u1].getD t Go.undef,ab,⟨fun t => ?_,hS.inj,hS.out⟩,fun t c k q => .inl ⟨t,c,q⟩,Nat.le_refl _,fun i o hi hg => ?_,fun j o hj => ?_,rfl⟩⟩
        · have ht:=hS.rep t
          rw [get_start,if_pos (Nat.zero_le _),Nat.sub_zero] at ht ⊢
          match t with
          | 0 => exact ht
          | 1 => exact ht
          | 2 =>
            have hd : ∀ c,ab 2 c = none:=ht
            show ORep w _ _ _ (ab 2 none) (fun j => ab 2 (some j))
            have e : (fun j => ab 2 (some j)) = fun _ => none:=funext fun j => hd _
            rw [hd none,e]
            exact .flat _ _ _ (.val _ _ (.bool r))
          | t + 3 =>
            have e : ([OV.flat (.own none ys (s :: sp)),.flat (.val (.sl none xs)),.flat (.val (.bool r))] : List OV)[t + 3]? = none:=by simp
            have e' : ([OV.flat (.own none ys (s :: sp)),.flat (.val (.sl none xs))] : List OV)[t + 3]? = none:=by simp
            rw [e'] at ht
            rw [e]
            have hd : ∀ c,ab (t + 3) c = none:=ht
            exact hd
        · match i with
          | 0 => simp at hi;subst hi;exact ⟨rfl,rfl,by simp⟩
          | 1 => simp at hi;exact absurd hi.symm hg
          | i + 2 => simp at hi
        · cases j with
          | zero => simp at hj;subst hj;rfl
          | succ j => simp at hj
       have h0 : ORep w (ab.off Oc) (.flat (.own none ys (s :: sp))) u0 (ab 0 none) (fun j => ab 0 (some j)):=hS.rep 0
       have h1 : ORep w (ab.off Oc) (.flat (.val (.sl none xs))) u1 (ab 1 none) (fun j => ab 1 (some j)):=hS.rep 1
       have hf0:=(ORep.flat_inv h0).1
       have hv1:=(ORep.flat_inv h1).1.val_inv.1
       obtain ⟨A1,c1,rfl,x2,x3,x4⟩:=bytes_read hbx hv1
       obtain ⟨s1,r1,e1⟩:=bytes_string (P:=P) hbx x3 x2 x4
       generalize ab 0 none = m0 at hf0
       cases hf0 with
       | own _ _ _ b c cur e fr vs h =>
         have hcell : ∀ i,i < ys.length → w.cell? ((⟨b,0,none⟩ : Addr).add i) = some (.int .u8 ((ys.map PV.toI).getD i 0)):=by
          intro i hi
          have hy : ys[i]? = some ys[i]:=List.getElem?_eq_getElem hi
          have hbi : isByte ys[i] = true:=List.all_eq_true.1 hby _ (List.getElem_mem hi)
          have hcs:=cells_of_isCell (isByte_cell hbi)
          have g1:=h.at_ i ys[i] 0 ys[i] hy (by rw [hcs];rfl)
          have g2:=h.rep i ys[i] 0 ys[i] hy (by rw [hcs];rfl)
          rw [isByte_inv hbi] at g2
          rw [g2.int_inv] at g1
          simp only [shN,Nat.mul_one,Nat.add_zero] at g1
          rw [addr_add]
          simp only [World.cell?,h.heap,Nat.zero_add]
          rw [show (ys.map PV.toI).getD i 0 = ys[i].toI by simp [List.getD,hy]]
          simpa using g1
         obtain ⟨s0,r0,e0⟩:=bytes_string (P:=P) (A:=some ⟨b,0,none⟩) (c:=c) hby (by simp) h.len (by intro a ha i hi;cases ha;exact hcell i hi)
         by_cases heq : ys.map u8Of = xs.map u8Of
         · have hle : ys.length = xs.length:=by simpa using congrArg List.length heq
           obtain ⟨u,g1,g2⟩:=h.spare 0 s rfl
           rw [isByte_inv hs] at g2
           have:=g2.int_inv
           subst this
           simp only [shN,Nat.mul_one,Nat.add_zero] at g1
           have hlt : ys.length < cur.size:=(Array.getElem?_eq_some_iff.1 g1).1
           have hsz : ys.length + 1 ≤ c:=by
            have:=h.spL
            simp only [List.length_cons] at this
            omega
           refine (hyes b ys.length c A1 xs.length c1 s0 s1 s.toI w r0 r1 (by rw [e0,e1];simpa using heq) (by omega) hl (by rw [← hle];simp only [World.cell?,h.heap];simpa using g1)).mono fun e' w' ⟨he,hw⟩ => ?_
           subst hw
           refine ⟨_,he,Grow.refl _ _,?_⟩
           have e2 : ((ys.map u8Of == xs.map u8Of) && (s.toI == 77)) = (s.toI == 77):=by simp [heq]
           rw [e2]
           exact out _
         · refine (hno (some ⟨b,0,none⟩) ys.length c A1 xs.length c1 s0 s1 w r0 r1 (by rw [e0,e1];simpa using heq)).mono fun e' w' ⟨he,hw⟩ => ?_
           subst hw
           refine ⟨_,he,Grow.refl _ _,?_⟩
           have e2 : ((ys.map u8Of == xs.map u8Of) && (s.toI == 77)) = false:=by simp [heq]
           rw [e2]
           exact out _
   · cases hp
 · cases hp
end Go.Ev

namespace Go.Lib
section
variable {P : Program} (w : World)
end
end Go.Lib
namespace Go.Ev
theorem bytesOf_u8 {xs : List PV} (h : xs.all isByte = true) : Lib.bytesOf (xs.map PV.toI) = xs.map u8Of:=by
 simp only [Lib.bytesOf,List.map_map]
 refine List.map_congr_left fun x hx => ?_
 have:=isByte_inv (List.all_eq_true.1 h x hx)
 rw [this]
 rfl
def primIndexByte : List OV → Option (List OV × List OV)
 | [.flat (.val (.sl none xs)),.flat (.val (.int .u8 c))] => match xs.all isByte with
   | true => some ([.flat (.val (.int .i64 (Lib.indexByte (xs.map u8Of) c.toNat.toUInt8)))],[])
   | false => none
 | _ => none
def primBytesCompare : List OV → Option (List OV × List OV)
 | [.flat (.val (.sl none xs)),.flat (.val (.sl none ys))] => match xs.all isByte && ys.all isByte with
   | true => some ([.flat (.val (.int .i64 (Lib.compareBytes (xs.map u8Of) (ys.map u8Of))))],[])
   | false => none
 | _ => none
theorem primBytesCompare_spec {P : Program} {f : FuncId} (h : ∀ (A : Option Addr) (n c : Nat) (xs : List Int) (B : Option Addr) (m d : Nat) (ys : List Int) (w : World),xs.length = n → (A = none → n = 0) → (∀ a,A = some a → ∀ i,i < n → w.cell? (a.add i) = some (.int .u8 (xs.getD i 0))) →
 ys.length = m → (B = none → m = 0) → (∀ a,B = some a → ∀ i,i < m → w.cell? (a.add i) = some (.int .u8 (ys.getD i 0))) →
 Calls P f #[.slice A n c,.slice B m d] w fun e w' => e = .returned (.int .i64 (Lib.compareBytes (Lib.bytesOf xs) (Lib.bytesOf ys))) ∧ w' = w)
 {os : List OV} {rr : List OV × List OV} (hp : primBytesCompare os = some rr) : CallSpec P f os rr.1 rr.2:=by
 unfold primBytesCompare at hp
 split at hp
 · rename_i xs ys
   split at hp
   · rename_i hb
     cases hp
     simp only [Bool.and_eq_true] at hb
     obtain ⟨hb1,hb2⟩:=hb
     refine quiet_spec (os:=[.sl none xs,.sl none ys]) (rs:=[.int .i64 (Lib.compareBytes (xs.map u8Of) (ys.map u8Of))]) fun w us hl hr => ?_
     match us,hl with
     | [x,y],_ =>
       obtain ⟨O,hx⟩:=hr 0 _ rfl
       obtain ⟨O',hy⟩:=hr 1 _ rfl
       obtain ⟨A,c1,h1,h2,h3,h4⟩:=bytes_read hb1 hx
       obtain ⟨B,c2,g1,g2,g3,g4⟩:=bytes_read hb2 hy
       simp only [List.getD_cons_zero,List.getD_cons_succ] at h1 g1
       subst h1 g1
       have:=h A xs.length c1 (xs.map PV.toI) B ys.length c2 (ys.map PV.toI) w (by simp) (fun e => by have:=h3 e;omega) (fun a ha i hi => h4 a ha i hi) (by simp) (fun e => by have:=g3 e;omega) (fun a ha i hi => g4 a ha i hi)
       rw [bytesOf_u8 hb1,bytesOf_u8 hb2] at this
       refine this.mono fun e w' ⟨he,hw⟩ => ⟨fun _ => .int .i64 (Lib.compareBytes (xs.map u8Of) (ys.map u8Of)),he,hw,fun j p hj => ?_⟩
       match j,hj with
       | 0,rfl => exact fun w O => .int _ _
   · cases hp
 · cases hp
end Go.Ev

namespace Go.Ev
section
variable {P : Program}
end
end Go.Ev

namespace Go.Ev
section
variable {H : Type} {enc : TypeId × Value → H} {P : Program}
end
end Go.Ev

