/- What the functions answer, and the laws. -/
import Derived.Test.YtnieankaikhmnaaVl
import Derived.RangeFuncNested
import Derived.RangeFuncBound
import Derived.RangeFuncCalls
import Derived.RangeFuncLeaves
import Derived.Shelf.Abstract
import Derived.Shelf.RegionOpen
import Derived.WalkKit
import Derived.OwnWalkIn
import Derived.TacticsInMore
import Derived.LoopNIn
import Derived.LoopIn
import Derived.WalkHide
import Derived.Test.YtnieankaikhmnaaProg
import Derived.KernelRfl
import Derived.Maps.AppendAt
import Derived.RangeFuncBox
import Derived.OrdersIn

set_option linter.unusedVariables false

set_option linter.unusedSimpArgs false

set_option linter.unusedSectionVars false

set_option linter.unusedVariables false
namespace Go.W14
open Go Go.RowKit
structure Turn (W : World) (T : Nat → Prop) (W' : World) (T' : Nat → Prop) : Prop where
 os : W'.os = W.os
 tape : W'.tape = W.tape
 output : W'.output = W.output
 size : W.heap.size ≤ W'.heap.size
 sub : ∀ k,T k → T' k
 new : ∀ k,T' k → T k ∨ (W.heap.size ≤ k ∧ k < W'.heap.size)
 same : ∀ k,k < W.heap.size → ¬ T k → W'.heap[k]? = W.heap[k]?
def AbidesX {β : Type} (J : β → (Nat → Prop) → World → Prop) : Prop := ∀ s T T' W W',J s T W → Turn W T W' T' → J s T' W'
def SeqX {α : Type} (F : Fence) (n : Nat) (P : Program) (g : Nat) (lb : Array Value) (encs : α → Array Value) (Kp : (Nat → Prop) → World → World → Prop) (S : List α → Prop) (N : Nat) (w : World) : Prop :=
 ∀ (l : Nat) (J : List α → (Nat → Prop) → World → Prop) (W : World),Below w.heap.size w W → AbidesX J →
  (∀ pre x T W1,J pre T W1 → pre.length < N → YieldAt F (n - 1) P l (encs x) W1 fun e W' => e = .returned (.bool true) ∧ J (pre ++ [x]) T W' ∧ Kp T W1 W') →
  J [] (fun _ => False) W →
  CallsIn F n P g (#[.func (.yield l) #[] #[]] ++ lb) W fun e W' => (∃ v,e = .returned v) ∧ ∃ xs,S xs ∧ ∃ T,J xs T W'
theorem turn_alloc (W : World) (T : Nat → Prop) (o : Obj) : Turn W T (W.alloc o) T :=
 ⟨rfl,rfl,rfl,by simp,fun k h => h,fun k h => .inl h,fun k hk _ => Below.heap_alloc W o k hk⟩
def ownPostX {α : Type} (Kp : (Nat → Prop) → World → World → Prop) (I : List α → (Nat → Prop) → World → Prop) (xs : List α) (T : Nat → Prop) (W : World) : Exit → Act → World → Prop
 | .normal,_,W' => KeepsOthers W W' ∧ Kp T W W' ∧ I xs T W'
 | _,_,_ => False
variable {F : Fence} {n : Nat} {P : Program}
theorem wpIn_rangeFunc_X {α : Type} {g : Operand} {ps : Array Tmp} {assign body : Code} {Q : Exit → Act → World → Prop} {a : Act} {w : World}
 (hro : F.round = none) (h1 : 1 ≤ n) {gf : Nat} {lb : Array Value} (hg : a.eval g = .func (.func gf) #[] lb) (hFg : F.fn gf) (eg : ∀ args w,(callFunc gf args).run P w = .ok (.enter gf args) w)
 {encs : α → Array Value} {Kp : (Nat → Prop) → World → World → Prop} {S : List α → Prop} {N : Nat} {w0 : World} (hseq : SeqX F (n - 1) P gf lb encs Kp S N w0)
 (hKt : ∀ {T : Nat → Prop} {A B C : World},Kp T A B → Kp T B C → Kp T A C) (hKb : ∀ (T : Nat → Prop) (W : World) (o' : Obj),¬ T (w.heap.size + 1) → Kp T W (W.putObj (w.heap.size + 1) o')) (hb0 : Below w0.heap.size w0 w) (hps : ∀ x,(encs x).size = ps.size)
 (I : List α → (Nat → Prop) → World → Prop) (hI : AbidesX I) (hIb : ∀ s T (W : World) (o' : Obj),I s T W → I s T (W.putObj (w.heap.size + 1) o')) (h0 : I [] (fun _ => False) w) (a₁ : α → Act)
 (hassign : ∀ (l : Nat) (x : α) (W : World) (K : Act → World → Prop),K (a₁ x) W →
   assign.wpIn (F.inRound l) (n - 1 - 1) P (Exit.then K (fun _ _ _ => False)) { tmps:=(ps.zip (encs x)).foldl (fun t (p,v) => t.setIfInBounds p v) a.tmps,defers:=[] } W)
 (hbody : ∀ (l : Nat) (pre : List α) (x : α) (T : Nat → Prop) (W : World),I pre T W → pre.length < N → w.heap.size + 2 ≤ W.heap.size → (∀ k,T k → w.heap.size + 2 ≤ k ∧ k < W.heap.size) → body.wpIn (F.inRound l) (n - 1 - 1) P (ownPostX Kp I (pre ++ [x]) T W) (a₁ x) W)
 (hdone : ∀ (xs : List α) (T : Nat → Prop) (W : World),S xs → I xs T W → W.heap[w.heap.size]? = some (.deferred (some [])) → Q .normal { a with defers:={ target := .collected w.heap.size,args := #[] } :: a.defers } W) :
 (Code.rangeFunc g ps assign body).wpIn F n P Q a w:=by
 refine wpIn_rangeFunc fun fn hfn => ?_
 rw [hro]
 let D:=w.heap.size
 let rec_ : LoopState → Option Code → Loop:=fun st pe => { state:=st,pending:=pe,fn,tmps:=a.tmps,params:=ps,assign,body,defers:=D }
 let W1:=(w.alloc (.deferred (some []))).alloc (.loop (rec_ .ready none))
 have hL1 : W1.heap[D + 1]? = some (.loop (rec_ .ready none)):=by
  have:=World.alloc_heap_new (w.alloc (.deferred (some []))) (.loop (rec_ .ready none));rwa [World.size_alloc] at this
 have hK1 : W1.heap[D]? = some (.deferred (some [])):=(Below.heap_alloc _ _ _ (by simp [D])).trans (World.alloc_heap_new w _)
 have hI1 : I [] (fun _ => False) W1:=hI _ _ _ _ _ (hI _ _ _ _ _ h0 (turn_alloc _ _ _)) (turn_alloc _ _ _)
 have hb1 : Below w0.heap.size w0 W1:=hb0.trans ((((Below.refl _ w).alloc (Nat.le_refl _) _).alloc (by simp) _).mono hb0.size)
 have hsz : W1.heap.size = D + 2:=by simp [W1,D]
 refine ⟨D + 1,[{ target := .collected D,args := #[] }],W1,{ target := .fn (.func gf) lb,args := #[.func (.yield (D + 1)) #[] #[]] },W1,gf,#[.func (.yield (D + 1)) #[] #[]] ++ lb,W1,run_enterLoop_outer _ _ _ _ _,?_,?_,?_,fun _ => h1,?_⟩
 · simp only [resolve,hg]
   simp [go_sem]
 · intro f' hf';simp [Target.leads] at hf';subst hf';exact hFg
 · simp [invoke,go_sem,eg]
 refine (hseq (D + 1) (fun pre T W => (I pre T W ∧ D + 2 ≤ W.heap.size ∧ ∀ k,T k → D + 2 ≤ k ∧ k < W.heap.size) ∧ W.heap[D + 1]? = some (.loop (rec_ .ready none)) ∧ W.heap[D]? = some (.deferred (some []))) W1 hb1
  (fun s T T' A B hs ht => ?_) ?_ ⟨⟨hI1,by omega,fun k h => h.elim⟩,hL1,hK1⟩).mono ?_
 · obtain ⟨⟨hi,hge,hT⟩,hl,hk⟩:=hs
   have n1 : ¬ T (D + 1):=fun h => by have:=(hT _ h).1;omega
   have n0 : ¬ T D:=fun h => by have:=(hT _ h).1;omega
   refine ⟨⟨hI _ _ _ _ _ hi ht,Nat.le_trans hge ht.size,fun k h => ?_⟩,(ht.same _ (by omega) n1).trans hl,(ht.same _ (by omega) n0).trans hk⟩
   rcases ht.new k h with q | q
   · have:=hT k q;have:=ht.size;omega
   · omega
 · rintro pre x T W ⟨⟨hi,hge,hT⟩,hl,hk⟩ hlen
   have n1 : ¬ T (D + 1):=fun h => by have:=(hT _ h).1;omega
   have hlt : D + 1 < W.heap.size:=by omega
   have hy:=run_yield (P:=P) (args:=encs x) hl (hps x)
   refine ⟨fn,_,assign,body,hy,roundIn_of_wpIn hfn (hassign _ x W _ ⟨_,run_beginRound hl rfl,?_⟩)⟩
   have hl2 : (W.putObj (D + 1) (.loop { rec_ .ready none with state := .busy })).heap[D + 1]? = some (.loop { rec_ .ready none with state := .busy }):=World.putObj_heap_same hlt
   have hk2 : (W.putObj (D + 1) (.loop { rec_ .ready none with state := .busy })).heap[D]? = some (.deferred (some [])):=(World.putObj_heap_other (by omega)).trans hk
   have hw2 : Kp T W (W.putObj (D + 1) (.loop { rec_ .ready none with state := .busy })):=hKb _ _ _ n1
   have hsz2 : (W.putObj (D + 1) (.loop { rec_ .ready none with state := .busy })).heap.size = W.heap.size:=by simp
   refine wpIn_mono (hbody _ pre x T _ (hIb _ _ _ _ hi) hlen (by rw [hsz2];exact hge) (fun k h => by rw [hsz2];exact hT k h)) ?_
   rintro e a3 W3 hp
   cases e with
   | normal =>
     obtain ⟨hk3,hkp3,hi3⟩:=hp
     have hl3:=hk3.same _ _ hl2 rfl
     have hr:=run_endRound (P:=P) none hl3
     have hl4 : (W3.putObj (D + 1) (.loop (rec_ .ready none))).heap[D + 1]? = some (.loop (rec_ .ready none)):=World.putObj_heap_same (Array.getElem?_eq_some_iff.1 hl3).1
     have hk4 : (W3.putObj (D + 1) (.loop (rec_ .ready none))).heap[D]? = some (.deferred (some [])):=(World.putObj_heap_other (by omega)).trans (hk3.same _ _ hk2 rfl)
     have hs3 : W.heap.size ≤ W3.heap.size:=by have:=hk3.size;rwa [hsz2] at this
     exact ⟨_,_,hr,rfl,⟨⟨hIb _ _ _ _ hi3,by simp;omega,fun k h => by simp;have:=hT k h;omega⟩,hl4,hk4⟩,hKt (hKt hw2 hkp3) (hKb _ _ _ n1)⟩
   | _ => exact hp.elim
 · rintro e W2 ⟨⟨v,rfl⟩,xs,hS,T,⟨hi,hge,_⟩,hl,hk⟩
   exact ⟨none,_,run_endLoop (P:=P) hl (by simp [rec_]),hdone xs T _ hS (hIb _ _ _ _ hi) ((World.putObj_heap_other (by omega)).trans hk)⟩
end Go.W14

set_option linter.unusedVariables false
namespace Go.Proofs.Ytnieankaikhmnaa
open Go Go.Ev Go.RowKit Go.Shelf Go.T14 Go.W14
attribute [local go_sem] Oper.semAt_some
abbrev LV (w0 : World) (O : Nat → Prop):={ x : Value × List Ent // RepV w0 O (enc 0 x.2) x.1 ∧ Sorted x.2 ∧ x.2.length ≤ 4 ∧ Short big x.2 }
structure SP (w0 : World) (O : Nat → Prop) where
 a : Addr
 d : Nat
 t : Tr d
 rep : RepV w0 O (enc d t) (.pointer (some a))
 okr : Okr d t
 sorted : Sorted (flat d t)
 short : Short big (flat d t)
structure KpL (n₀ : Nat) (T : Nat → Prop) (W W' : World) : Prop where
 below : Below n₀ W W'
 rows : ∀ k : Nat,T k → W'.heap[k]? = W.heap[k]?
def SP.val {w0 : World} {O : Nat → Prop} (s : SP w0 O) : Value := .pointer (some s.a)
def stackLeaves {w0 : World} {O : Nat → Prop} (st : List (SP w0 O)) : List (List Ent):=st.reverse.flatMap fun s => leaves s.d s.t
structure PageAt (w : World) (O : Nat → Prop) (a : Addr) (es bs : List PV) (c : Int) where
 ve : Value
 vb : Value
 h0 : w.cell? (a.add 0) = some ve
 h1 : w.cell? (a.add 1) = some vb
 h2 : w.cell? (a.add 2) = some (.int .i64 c)
 re : RepV w O (.sl (some 2) es) ve
 rb : RepV w O (.sl none bs) vb
theorem page_at {w : World} {O : Nat → Prop} {a : Addr} {es bs : List PV} {c : Nat} (h : RepV w O (pageV es bs c) (.pointer (some a))) : Nonempty (PageAt w O a es bs c):=by
 unfold pageV at h
 cases h with
 | ptr _ _ _ us hf hk ho hm hr =>
   have m0:=hm 0 _ rfl
   have m1:=hm 1 _ rfl
   have m2:=hm 2 _ rfl
   have r2:=hr 2 _ rfl
   have e2 : us 2 = .int .i64 c:=by
    generalize us 2 = q at r2
    cases r2;rfl
   rw [e2] at m2
   exact ⟨⟨us 0,us 1,m0,m1,m2,hr 0 _ rfl,hr 1 _ rfl⟩⟩
def nodesOf : (d : Nat) → Tr d → Nat
 | 0,_ => 1
 | d + 1,bs => 1 + ((bs : List (Tr d)).map (nodesOf d)).sum
def nstack {w0 : World} {O : Nat → Prop} (st : List (SP w0 O)) : Nat:=(st.map fun s => nodesOf s.d s.t).sum
theorem nodesOf_pos (d : Nat) (t : Tr d) : 1 ≤ nodesOf d t:=by cases d <;> simp [nodesOf] <;> omega
theorem nstack_len {w0 : World} {O : Nat → Prop} (st : List (SP w0 O)) : st.length ≤ nstack st:=by
 induction st with
 | nil => simp [nstack]
 | cons s st ih =>
   have:=nodesOf_pos s.d s.t
   simp only [nstack,List.map_cons,List.sum_cons,List.length_cons] at ih ⊢
   omega
theorem nodes_okp : ∀ (d : Nat) (t : Tr d),Okp d t → nodesOf d t ≤ 5 ^ d
 | 0,_,_ => by simp [nodesOf]
 | d + 1,bs,h => by
   obtain ⟨_,h4,hb⟩:=h
   have key : ∀ l : List (Tr d),(∀ b ∈ l,Okp d b) → (l.map (nodesOf d)).sum ≤ l.length * 5 ^ d:=by
    intro l
    induction l with
    | nil => intro _;simp
    | cons x l ih =>
      intro hx
      have h1:=nodes_okp d x (hx x (by simp))
      have h2:=ih fun b hb => hx b (by simp [hb])
      simp only [List.map_cons,List.sum_cons,List.length_cons,Nat.add_mul]
      omega
   have h2:=key _ hb
   have h3 : (bs : List (Tr d)).length * 5 ^ d ≤ 4 * 5 ^ d:=Nat.mul_le_mul_right _ h4
   have h5 : 0 < 5 ^ d:=Nat.pow_pos (by decide)
   show 1 + ((bs : List (Tr d)).map (nodesOf d)).sum ≤ 5 ^ (d + 1)
   rw [Nat.pow_succ]
   omega
theorem nodes_okr (d : Nat) (t : Tr d) (h : Okr d t) : nodesOf d t ≤ 5 ^ d:=by
 cases d with
 | zero => simp [nodesOf]
 | succ d => exact nodes_okp (d + 1) t h
structure Kids (w0 : World) (O : Nat → Prop) (s : SP w0 O) where
 ve : Value
 A : Option Addr
 c : Nat
 kids : List (SP w0 O)
 h0 : w0.cell? (s.a.add 0) = some ve
 h1 : w0.cell? (s.a.add 1) = some (.slice A kids.length c)
 cells : ∀ (i : Nat) (k : SP w0 O),kids[i]? = some k → ∃ b,A = some b ∧ w0.cell? (b.add i) = some k.val
 leaf : kids = [] → s.d = 0
 inner : kids ≠ [] → leaves s.d s.t = kids.flatMap (fun k => leaves k.d k.t)
 nn : nodesOf s.d s.t = 1 + nstack kids
 few : kids.length ≤ 4
theorem kid_rep {w : World} {O : Nat → Prop} {d : Nat} {t : Tr d} {u : Value} (h : RepV w O (enc d t) u) : ∃ a,u = .pointer (some a):=by
 cases d <;> (unfold enc pageV at h;cases h;exact ⟨_,rfl⟩)
theorem kids_of {w0 : World} {O : Nat → Prop} (s : SP w0 O) : Nonempty (Kids w0 O s):=by
 obtain ⟨a,d,t,rep,okr,sorted,short⟩:=s
 cases d with
 | zero =>
   obtain ⟨⟨ve,vb,p0,p1,p2,re,rb⟩⟩:=page_at (c:=List.length (α := Ent) t) rep
   obtain ⟨A,c,rfl⟩ : ∃ A c,vb = .slice A 0 c:=by
    generalize hq : PV.sl none [] = q at rb
    cases rb with
    | slNil => exact ⟨_,_,rfl⟩
    | sl _ xs _ _ _ => cases hq;exact ⟨_,_,rfl⟩
    | _ => cases hq
   exact ⟨⟨ve,A,c,[],p0,p1,fun i k hk => by simp at hk,fun _ => rfl,fun h => absurd rfl h,rfl,by simp⟩⟩
 | succ d =>
   obtain ⟨⟨ve,vb,p0,p1,p2,re,rb⟩⟩:=page_at (c:=(flat (d + 1) t).length) rep
   have hl2 : 2 ≤ (t : List (Tr d)).length:=okr.1
   have key : ∃ (b : Addr) (c : Nat) (us : Nat → Value),vb = .slice (some b) (t : List (Tr d)).length c ∧ ∀ (i : Nat) (x : Tr d),(t : List (Tr d))[i]? = some x → w0.cell? (b.add i) = some (us i) ∧ RepV w0 O (enc d x) (us i):=by
    generalize hq : PV.sl none (List.map (enc d) (t : List (Tr d))) = q at rb
    cases rb with
    | slNil => injection hq with _ hh;have:=congrArg List.length hh;rw [List.length_map,List.length_nil] at this;omega
    | sl _ xs b c us hc hf hk ho hm hr =>
      cases hq
      refine ⟨b,c,fun i => us i 0,by rw [List.length_map],fun i x hx => ?_⟩
      have hx' : (List.map (enc d) (t : List (Tr d)))[i]? = some (enc d x):=by rw [List.getElem?_map,hx];rfl
      have hcl : (enc d x).cells[0]? = some (enc d x):=by cases d <;> rfl
      have m:=hm i _ 0 _ hx' hcl
      simp only [shN,Nat.mul_one,Nat.add_zero] at m
      exact ⟨m,hr i _ 0 _ hx' hcl⟩
    | _ => cases hq
   obtain ⟨b,c,us,rfl,hus⟩:=key
   have hk : ∀ i : Fin (t : List (Tr d)).length,∃ k : SP w0 O,(leaves k.d k.t = leaves d ((t : List (Tr d))[i]) ∧ nodesOf k.d k.t = nodesOf d ((t : List (Tr d))[i])) ∧ w0.cell? (b.add i) = some k.val:=fun i => by
    have hx : (t : List (Tr d))[i.1]? = some (t : List (Tr d))[i]:=List.getElem?_eq_getElem i.2
    obtain ⟨m,r⟩:=hus i.1 _ hx
    have hmem : (t : List (Tr d))[i] ∈ (t : List (Tr d)):=List.getElem_mem i.2
    generalize (t : List (Tr d))[i] = x at r hmem ⊢
    obtain ⟨a',ha⟩:=kid_rep r
    rw [ha] at r m
    obtain ⟨X,Y,hXY⟩:=List.append_of_mem hmem
    have hso : Sorted (flat d x):=by
     have : flat (d + 1) t = (t : List (Tr d)).flatMap (flat d):=rfl
     rw [this,hXY,List.flatMap_append,Sorted.append_iff,List.flatMap_cons,Sorted.append_iff] at sorted
     exact sorted.2.1.1
    have hsh : Short big (flat d x):=fun e he => short e (List.mem_flatMap.2 ⟨x,hmem,he⟩)
    exact ⟨⟨a',d,x,r,okp_okr (okr.2.2 x hmem),hso,hsh⟩,⟨rfl,rfl⟩,m⟩
   have hlen : (List.ofFn fun i => (hk i).choose).length = (t : List (Tr d)).length:=List.length_ofFn
   refine ⟨⟨ve,some b,c,List.ofFn fun i => (hk i).choose,p0,by rw [hlen];exact p1,fun i k hi => ⟨b,rfl,?_⟩,fun h => ?_,fun _ => ?_,?_,by rw [hlen];exact okr.2.1⟩⟩
   · have hil : i < (t : List (Tr d)).length:=by have:=(List.getElem?_eq_some_iff.1 hi).1;omega
     rw [List.getElem?_ofFn,dif_pos hil] at hi
     cases hi
     exact (hk ⟨i,hil⟩).choose_spec.2
   · rw [h] at hlen;simp at hlen;omega
   · have : (List.ofFn fun i => (hk i).choose).flatMap (fun k => leaves k.d k.t) = (t : List (Tr d)).flatMap (leaves d):=by
      rw [List.flatMap_def,List.flatMap_def,List.map_ofFn]
      congr 1
      have : (fun k : SP w0 O => leaves k.d k.t) ∘ (fun i => (hk i).choose) = fun i : Fin (t : List (Tr d)).length => leaves d ((t : List (Tr d))[i]):=funext fun i => (hk i).choose_spec.1.1
      rw [this]
      apply List.ext_getElem
      · simp
      · intro i h1 h2;simp
     rw [this]
     rfl
   · have : (List.ofFn fun i => (hk i).choose).map (fun k : SP w0 O => nodesOf k.d k.t) = (t : List (Tr d)).map (nodesOf d):=by
      rw [List.map_ofFn]
      have : (fun k : SP w0 O => nodesOf k.d k.t) ∘ (fun i => (hk i).choose) = fun i : Fin (t : List (Tr d)).length => nodesOf d ((t : List (Tr d))[i]):=funext fun i => (hk i).choose_spec.1.2
      rw [this]
      apply List.ext_getElem
      · simp
      · intro i h1 h2;simp
     show 1 + ((t : List (Tr d)).map (nodesOf d)).sum = 1 + nstack _
     unfold nstack
     rw [this]
end Go.Proofs.Ytnieankaikhmnaa

set_option linter.unusedVariables false
namespace Go.W14
open Go Go.Ev
theorem run_append_fresh {P : Program} {w : World} (base : Nat) (t ty e : TypeId) (i : TypeInfo) (z : Value) (size bytes : Nat) (ht : P.underlying t = some (.slice e)) (hi : P.info? e = some i) (hz : i.zero = some z)
 (hsize : i.size = size) (hby : i.bytes = bytes) (hzs : z.cells.size = size) (hsz : 0 < size)
 (v : Value) (n : Nat) (xs : List Value) (hown : w.ownsRow base e size v n xs)
 (a : Addr) (m c : Nat) (news : List Value) (hl : news.length = m * size) (hnews : ∀ j u,news[j]? = some u → w.cell? (a.add j) = some u) (h1 : ∀ u ∈ news,u.oneCell' = true) (hm : 0 < m)
 (h63 : n + m ≤ maxLen) (hbytes : (n + m) * bytes ≤ 140737488355328) (hbase : base ≤ w.heap.size) :
 ∃ v' w',(Builtin.append_ #[t,t] ty #[v,.slice (some a) m c]).run P w = .ok v' w' ∧ w'.ownsRow base e size v' (n + m) (xs ++ news) ∧ w.grownBy w' v.ownBlock ∧
  (v'.ownBlock = v.ownBlock ∨ v'.ownBlock = some w.heap.size) ∧ ∃ g,v'.ownBlock = some g:=by
 subst hsize hby
 have hsmall : n + m ≤ 9223372036854775807:=by unfold maxLen at h63;omega
 obtain ⟨hlx,(⟨rfl,rfl⟩ | ⟨g,cap,cur,rfl,hb,hg,hc1,hc2,hc3,hc4⟩)⟩:=hown
 · have hx : xs = []:=List.eq_nil_of_length_eq_zero (by simpa using hlx)
   subst hx
   obtain ⟨cap,w',L,hr,h1',h2',h3,h4,h5,h6,h7,h8,h9,h10⟩:=run_append_new0 (P:=P) (w:=w) (ty:=ty) (mc:=c) (A:=none) (a:=a) ht hi hz hzs hl hnews hm (by omega) (by simpa using hbytes)
   refine ⟨_,w',hr,⟨by simp [hl],.inr ⟨w.heap.size,cap,L.toArray,by simp,hbase,h8,by omega,by unfold maxLen;omega,by simp [h9],by simpa using h10⟩⟩,⟨h3,h4,h5,by omega,fun k hk _ => h7 k hk⟩,.inr rfl,_,rfl⟩
 · have hg' : w.heap[g]? = some (.cells cur.toList.toArray e (0,0)):=by simpa using hg
   have hcl : cur.toList.length = cap * i.size:=by simpa using hc3
   have hmul : (n + m) * i.size = n * i.size + m * i.size:=Nat.add_mul _ _ _
   by_cases hroom : n + m ≤ cap
   · have hfit : (n + m) * i.size ≤ cap * i.size:=Nat.mul_le_mul_right _ hroom
     obtain ⟨w',hr,hchg⟩:=run_append_over (P:=P) (w:=w) (ty:=ty) (g:=g) (n:=n) (c:=cap) (a:=a) (mc:=c) ht hi hl hnews hg' rfl (by omega) hroom h1
     refine ⟨_,w',hr,⟨by rw [List.length_append];omega,.inr ⟨g,cap,_,rfl,hb,hchg.heap,hroom,hc2,?_,?_⟩⟩,⟨hchg.os,hchg.tape,hchg.output,Nat.le_of_eq hchg.size.symm,fun k _ hk => hchg.same k fun e => hk (by rw [e];rfl)⟩,.inl rfl,_,rfl⟩
     · rw [List.size_toArray,over_length (by omega)]
       exact hcl
     · rw [List.toList_toArray,hmul,← hl]
       unfold over
       rw [List.take_append_of_le_length (by simp;omega),hc4,List.take_of_length_le (by simp;omega)]
   · obtain ⟨cap',w',L,hr,h1',h2',h3,h4,h5,h6,h7,h8,h9,h10⟩:=run_append_new (P:=P) (w:=w) (ty:=ty) (b:=⟨g,0,none⟩) (a:=a) (n:=n) (c:=cap) (mc:=c) ht hi hz hzs hlx (fun j u hj => by
      rw [addr_add]
      simp only [World.cell?,hg]
      rw [← hc4,List.getElem?_take] at hj
      split at hj
      · simpa using hj
      · cases hj) hl hnews (by omega) (by omega) hbytes
     exact ⟨_,w',hr,⟨by rw [List.length_append];omega,.inr ⟨w.heap.size,cap',L.toArray,rfl,hbase,h8,by omega,by unfold maxLen;omega,by simpa using h9,by simpa using h10⟩⟩,⟨h3,h4,h5,by omega,fun k hk _ => h7 k hk⟩,.inr rfl,_,rfl⟩
theorem wpListIn_append_fresh {F : Fence} {n : Nat} {P : Program} (w : World) {ops : Array Oper} {rest : List Oper} {o : Oper} {a : Act} {Q : Exit → Act → World → Prop}
 (hg : o.guard = none) (s x : Operand) (t : TypeId) (hop : o.op = Op.call { callee:=Callee.builtin Builtin.append,args := #[s,x],argTypes := #[t,t] })
 (base : Nat) (e : TypeId) (i : TypeInfo) (z : Value) (size bytes : Nat) (h1 : P.underlying t = some (.slice e)) (h2 : P.info? e = some i) (h3 : i.zero = some z) (h4 : i.size = size) (h5 : i.bytes = bytes) (h6 : z.cells.size = size) (h7 : 0 < size)
 (v : Value) (k : Nat) (xs : List Value) (hs : a.eval s = v) (hown : w.ownsRow base e size v k xs) (ad : Addr) (m c : Nat) (news : List Value) (hx : a.eval x = .slice (some ad) m c) (hn : news.length = m * size)
 (hc : ∀ j u,news[j]? = some u → w.cell? (ad.add j) = some u) (h1c : ∀ u ∈ news,u.oneCell' = true) (hm : 0 < m) (b1 : k + m ≤ maxLen) (b2 : (k + m) * bytes ≤ 140737488355328) (b3 : base ≤ w.heap.size)
 (hK : ∀ v' w',w'.ownsRow base e size v' (k + m) (xs ++ news) → w.grownBy w' v.ownBlock → (v'.ownBlock = v.ownBlock ∨ v'.ownBlock = some w.heap.size) → (∃ g,v'.ownBlock = some g) → wpListIn F n P ops Q rest (a.put o.dst v') w') :
 wpListIn F n P ops Q (o :: rest) a w:=by
 refine wpListIn_plain hg fun K hK' => ?_
 obtain ⟨v',w',hrun,r1,r2,r3,r4⟩:=run_append_fresh (P:=P) (w:=w) base t o.type e i z size bytes h1 h2 h3 h4 h5 h6 h7 v k xs hown ad m c news hn hc h1c hm b1 b2 b3
 unfold Oper.wpIn
 refine ⟨?_,?_⟩
 · simp [Oper.about,hop,resolve,Target.leads,Sem.run_pure]
 · rw [Oper.semAt_plain F _ _ (by rw [hop];intro c hc';cases hc')]
   simp [execOp,hop,resolve,invoke,builtin,hs,hx,hrun,Result.andThen]
   exact hK' _ _ (hK v' w' r1 r2 r3 r4)
end Go.W14

set_option linter.unusedVariables false
namespace Go.Proofs.Ytnieankaikhmnaa
open Go Go.Ev Go.RowKit Go.Shelf Go.T14 Go.W14
attribute [local go_sem] Oper.semAt_some
structure Keep (p : Prop) : Prop where
 out : p
theorem exists_least {p : Nat → Prop} (h : ∃ n,p n) : ∃ n,p n ∧ ∀ m,p m → n ≤ m:=by
 obtain ⟨n,hn⟩:=h
 induction n using Nat.strongRecOn with
 | _ n ih =>
   by_cases hx : ∃ m,m < n ∧ p m
   · obtain ⟨m,hm,hp⟩:=hx;exact ih m hm hp
   · exact ⟨n,hn,fun m hp => Nat.le_of_not_lt fun hl => hx ⟨m,hl,hp⟩⟩
noncomputable def leastN (p : Nat → Prop) : Nat:=by
 classical
 exact if h : ∃ n,p n then (exists_least h).choose else 0
theorem leastN_spec {p : Nat → Prop} {n : Nat} (h : p n) : p (leastN p):=by
 unfold leastN
 have h' : ∃ n,p n:=⟨n,h⟩
 simp only [h',dite_true]
 exact (exists_least h').choose_spec.1
theorem leastN_le {p : Nat → Prop} {n : Nat} (h : p n) : leastN p ≤ n:=by
 unfold leastN
 have h' : ∃ n,p n:=⟨n,h⟩
 simp only [h',dite_true]
 exact (exists_least h').choose_spec.2 _ h
theorem wrap_pred {M m k : Nat} (hM : M = k + 1) (hm : m = k) (hlt : k < 9223372036854775807) : wrap64 ((M : Int) - 1) = (m : Int):=by
 subst hM hm;unfold wrap64;omega
theorem pos_of {M k : Nat} (hM : M = k + 1) : 0 < M:=by omega
theorem lt_of {M m k : Nat} (hM : M = k + 1) (hm : m = k) : m < M:=by omega
theorem le_of {M k c : Nat} (hM : M = k + 1) (hm : k + 1 ≤ c) : M ≤ c:=by omega
theorem lt_maxLen {k cap : Nat} (h : k + 1 ≤ cap) (h2 : cap ≤ maxLen) : k < 9223372036854775807:=by unfold maxLen at h2;omega
theorem stackLeaves_concat {w0 : World} {O : Nat → Prop} (st : List (SP w0 O)) (s : SP w0 O) : stackLeaves (st ++ [s]) = leaves s.d s.t ++ stackLeaves st:=by
 simp [stackLeaves]
theorem stackLeaves_kids {w0 : World} {O : Nat → Prop} (st kids : List (SP w0 O)) : stackLeaves (st ++ kids.reverse) = kids.flatMap (fun k => leaves k.d k.t) ++ stackLeaves st:=by
 simp [stackLeaves]
theorem nstack_append {w0 : World} {O : Nat → Prop} (st kids : List (SP w0 O)) : nstack (st ++ kids.reverse) = nstack kids + nstack st:=by
 simp only [nstack,List.map_append,List.map_reverse,List.sum_append,List.sum_reverse]
 omega
theorem nstack_concat {w0 : World} {O : Nat → Prop} (st : List (SP w0 O)) (s : SP w0 O) : nstack (st ++ [s]) = nodesOf s.d s.t + nstack st:=by
 simp only [nstack,List.map_append,List.sum_append,List.map_cons,List.map_nil,List.sum_cons,List.sum_nil]
 omega
theorem ownsRow_pop {w : World} {B : Nat} {e : TypeId} {g cap k m : Nat} {xs ys : List Value} {y : Value} (h : w.ownsRow B e 1 (.slice (some ⟨g,0,none⟩) k cap) k xs) (hx : xs = ys ++ [y]) (hm : m = ys.length) :
 w.ownsRow B e 1 (.slice (some ⟨g,0,none⟩) m cap) m ys:=by
 obtain ⟨hl,(⟨hh,_⟩ | ⟨g',cap',cur,hh,hbg,hg,hc1,hc2,hc3,hc4⟩)⟩:=h
 · cases hh
 · cases hh
   have hk : k = ys.length + 1:=by rw [hx] at hl;simp at hl;omega
   refine ⟨by omega,.inr ⟨g,cap,cur,rfl,hbg,hg,by omega,hc2,hc3,?_⟩⟩
   have : ys = xs.take ys.length:=by rw [hx];simp
   rw [this,← hc4,List.take_take]
   congr 1
   simp
   omega
theorem ownsRow_top {w : World} {B : Nat} {e : TypeId} {g cap k m : Nat} {xs ys : List Value} {y : Value} (h : w.ownsRow B e 1 (.slice (some ⟨g,0,none⟩) k cap) k xs) (hx : xs = ys ++ [y]) (hm : m = ys.length) :
 w.cell? ⟨g,m,none⟩ = some y:=by
 have:=h.cells (g:=g) rfl m y (by rw [hx,hm];simp)
 have hadd : (⟨g,0,none⟩ : Addr).add m = ⟨g,m,none⟩:=by unfold Addr.add;split <;> simp_all
 rwa [hadd] at this
theorem turn_grown {w w' : World} {B : Nat} {e : TypeId} {v v' : Value} {m : Nat} {ys : List Value} {T : Nat → Prop} (h : w'.ownsRow B e 1 v' m ys) (hg : w.grownBy w' v.ownBlock) (hv : v'.ownBlock = v.ownBlock ∨ v'.ownBlock = some w.heap.size) (hT : ∀ g,v.ownBlock = some g → T g) :
 Turn w T w' (fun k => T k ∨ v'.ownBlock = some k):=by
 refine ⟨hg.os,hg.tape,hg.output,hg.size,fun k h => .inl h,fun k hk => ?_,fun k hk hn => hg.block k hk fun e => hn (hT k e.symm)⟩
 rcases hk with hk | hk
 · exact .inl hk
 · rcases hv with hv | hv
   · exact .inl (hT k (by rw [← hv];exact hk))
   · rw [hv] at hk
     cases hk
     exact .inr ⟨Nat.le_refl _,(h.lt _ hv).2⟩
theorem turn_new (w : World) (o : Obj) : Turn w (fun _ => False) (w.alloc o) (fun k => k = w.heap.size) :=
 ⟨rfl,rfl,rfl,by simp,fun k h => h.elim,fun k h => .inr (by subst h;simp),fun k hk _ => Below.heap_alloc w _ k hk⟩
theorem ownsRow_kp {n0 : Nat} {T : Nat → Prop} {w w' : World} {B : Nat} {v : Value} {n : Nat} {xs : List Value} (h : w.ownsRow B 55 1 v n xs) (hk : KpL n0 T w w') (hT : ∀ g,v.ownBlock = some g → T g) : w'.ownsRow B 55 1 v n xs:=by
 obtain ⟨hl,(hh | ⟨g,cap,cur,rfl,hbg,hg,hr⟩)⟩:=h
 · exact ⟨hl,.inl hh⟩
 · refine ⟨hl,.inr ⟨g,cap,cur,rfl,hbg,?_,hr⟩⟩
   rw [hk.rows g (hT g rfl)]
   exact hg
theorem leaf_lv {w0 : World} {O : Nat → Prop} (s : SP w0 O) (h : s.d = 0) : ∃ x : LV w0 O,x.1.1 = s.val ∧ leaves s.d s.t = [x.1.2]:=by
 obtain ⟨a,d,t,rep,okr,sorted,short⟩:=s
 simp only at h
 subst h
 exact ⟨⟨(_,t),rep,sorted,okr,short⟩,rfl,rfl⟩
def RelL (w0 : World) (O : Nat → Prop) (s0 : SP w0 O) (J : List (LV w0 O) → (Nat → Prop) → World → Prop) (B : Nat) (p : Value) (wr : World) (N : Nat) : Prop :=
 ∃ (pre : List (LV w0 O)) (st : List (SP w0 O)) (T : Nat → Prop),pre.map (fun x => x.1.2) ++ stackLeaves st = leaves s0.d s0.t ∧ nstack st = N ∧ N ≤ nodesOf s0.d s0.t ∧ wr.ownsRow B 55 1 p st.length (st.map SP.val) ∧ Below w0.heap.size w0 wr ∧ B ≤ wr.heap.size ∧ (∀ g,p.ownBlock = some g → T g) ∧ J pre T wr
theorem w61 : Try.prog.underlying 61 = some (.slice 55):=by kernel_rfl
theorem wi55 : (Try.prog.info? 55).map (fun i => (i.zero,i.size,i.bytes)) = some (some (.pointer none),1,8):=by kernel_rfl
def posOf : Value → Nat
 | .int _ z => (z + 1).toNat
 | _ => 0
set_option maxHeartbeats 4000000 in
set_option maxRecDepth 100000 in
theorem leaves_in (F : Fence) (n : Nat) (h39 : F.fn 39) (hro : F.round = none) (hn : 1 ≤ n) (l Bn : Nat) (w0 : World) (O : Nat → Prop) (s0 : SP w0 O) (hnod : nodesOf s0.d s0.t ≤ 10000000)
 (J : List (LV w0 O) → (Nat → Prop) → World → Prop) (W : World) (hJ : AbidesX J) (hb : Below w0.heap.size w0 W) (hc : W.cell? ⟨Bn,0,none⟩ = some s0.val)
 (hY : ∀ pre x T W1,J pre T W1 → pre.length < (leaves s0.d s0.t).length → YieldAt F (n - 1) Try.prog l #[x.1.1] W1 fun e W' => e = .returned (.bool true) ∧ J (pre ++ [x]) T W' ∧ KpL w0.heap.size T W1 W') (h0 : J [] (fun _ => False) W) :
 CallsIn F n Try.prog 39 (#[.func (.yield l) #[] #[]] ++ #[.pointer (some ⟨Bn,0,none⟩)]) W fun e W' => (∃ v,e = .returned v) ∧ ∃ xs : List (LV w0 O),xs.map (fun x => x.1.2) = leaves s0.d s0.t ∧ ∃ T,J xs T W':=by
 refine callsIn_of_wp Try.func39 rfl h39 ?_ hro
 simp only [Try.ntmps39,List.size_toArray,List.length_cons,List.length_nil,Nat.reduceAdd,Nat.reduceSub,Array.replicate_succ,Array.replicate_zero,List.push_toArray,List.append_toArray,List.nil_append,List.cons_append]
 have hcW : W.cell? ⟨Bn,0,none⟩ = some (.pointer (some s0.a)):=hc
 clear hc
 gi_wp2
 gi_loopw [3] (fun p wr => ∃ N,RelL w0 O s0 J W.heap.size p wr N) (fun p wr => leastN (RelL w0 O s0 J W.heap.size p wr))
 case atStart =>
  exact ⟨_,[],[s0],fun k => k = W.heap.size,by simp [stackLeaves],rfl,by simp [nstack],⟨rfl,.inr ⟨W.heap.size,1,#[.pointer (some s0.a)],rfl,Nat.le_refl _,World.alloc_heap_new W _,Nat.le_refl _,by decide,rfl,rfl⟩⟩,hb.trans ((Below.refl _ W).alloc hb.size _),by simp,fun g hg => by cases hg;rfl,hJ _ _ _ _ _ h0 (turn_new _ _)⟩
 case round =>
  obtain ⟨N0,hrel⟩:=hrel
  have hrel:=leastN_spec hrel
  obtain ⟨N,hN⟩ : ∃ N,leastN (RelL w0 O s0 J W.heap.size u3 wr) = N:=⟨_,rfl⟩
  rw [hN] at hrel
  have kN : Keep (leastN (RelL w0 O s0 J W.heap.size u3 wr) = N):=⟨hN⟩
  clear hN
  obtain ⟨pre,st,T,hx,hn1,hn2,hr,hB,hBs,hTg,hJs⟩:=hrel
  rcases List.eq_nil_or_concat st with rfl | ⟨st',s,rfl⟩
  · obtain ⟨_,(⟨rfl,_⟩ | ⟨g,cap,cur,rfl,_⟩)⟩:=hr
    · gi_wp2
      go_end0
      exact ⟨⟨_,rfl⟩,pre,by simpa [stackLeaves] using hx,_,hJs⟩
    · gi_wp2
      go_end0
      exact ⟨⟨_,rfl⟩,pre,by simpa [stackLeaves] using hx,_,hJs⟩
  · simp only [List.concat_eq_append] at hx hn1 hr
    rw [stackLeaves_concat] at hx
    rw [nstack_concat] at hn1
    have hr0:=hr
    obtain ⟨hl,(⟨rfl,hz⟩ | ⟨g,cap,cur,rfl,hbg,hg,hc1,hc2,hc3,hc4⟩)⟩:=hr
    · simp at hz
    · rw [List.length_append,List.length_singleton] at hr0 hc1 ⊢
      obtain ⟨M,hM⟩ : ∃ M,M = st'.length + 1:=⟨_,rfl⟩
      obtain ⟨m,hm⟩ : ∃ m,m = st'.length:=⟨_,rfl⟩
      have hlt:=lt_maxLen hc1 hc2
      have hMw : wrap64 ((M : Int) - 1) = (m : Int):=wrap_pred hM hm hlt
      have hM0 : 0 < M:=pos_of hM
      have hmM : m < M:=lt_of hM hm
      have hMc : M ≤ cap:=le_of hM hc1
      rw [← hM] at hr0 ⊢
      rw [List.length_append,List.length_singleton,← hM] at kN
      rw [List.map_append,List.map_singleton] at hr0
      have hcl : wr.cell? ⟨g,m,none⟩ = some (.pointer (some s.a)):=ownsRow_top hr0 rfl (by rw [hm,List.length_map])
      have hr1 : Keep (wr.ownsRow W.heap.size 55 1 (.slice (some ⟨g,0,none⟩) m cap) m (st'.map SP.val)):=⟨ownsRow_pop hr0 rfl (by rw [hm,List.length_map])⟩
      obtain ⟨⟨ve,A,c,kids,q0,q1,qc,ql,qi,qn,qf⟩⟩:=kids_of s
      have q1w : wr.cell? { block:=s.a.block,off:=s.a.off + 1,spot:=none } = some (.slice A kids.length c):=by have:=cell_same (hB.block _ (cell_lt q1));simp only [Addr.add,Nat.one_ne_zero,if_false] at this q1;rw [this];exact q1
      have hw2 : wrap64 ((kids.length : Int) - 1) = (kids.length : Int) - 1:=by clear hlt hl hM hm hc1 hc2 hc3 hMc hmM hM0 hr0 hnod hn1 hn2;unfold wrap64;omega
      have kM : Keep (m = st'.length):=⟨hm⟩
      have hW0 : w0.heap.size ≤ W.heap.size:=hb.size
      have kn : Keep (nodesOf s.d s.t + nstack st' = N ∧ N ≤ 10000000):=⟨hn1,by omega⟩
      clear hl hlt hc2 hM hm hc1 hc3 hc4 hg hr0 hn1 hb hcW h0 hnod
      gi_hideQ
      iterate 94 (first | go_values | gi_guarded | gi_step | gi_upon | gi_in | gi_back)
      gi_step
      gi_step
      gi_step
      gi_loopw [3,5] (fun p i wr' => ∃ jn : Nat,i = .int .i64 ((jn : Int) - 1) ∧ jn ≤ kids.length ∧ wr'.ownsRow W.heap.size 55 1 p (m + (kids.length - jn)) (st'.map SP.val ++ (kids.drop jn).reverse.map SP.val) ∧ Below w0.heap.size w0 wr' ∧ W.heap.size ≤ wr'.heap.size ∧ ∃ T,(∀ g,p.ownBlock = some g → T g) ∧ J pre T wr') (fun p i wr' => posOf i)
      case atStart => exact ⟨kids.length,rfl,Nat.le_refl _,by simpa using hr1.out,hB,hBs,T,hTg,hJs⟩
      case round =>
       clear hcl hMw hM0 hmM hMc hr1 q1w hB hBs hJs hTg T
       obtain ⟨jn,rfl,hjk,hrow,hB,hBs,T,hTg,hJs⟩:=hrel
       cases jn with
       | zero =>
         have q1w : wr.cell? { block:=s.a.block,off:=s.a.off + 1,spot:=none } = some (.slice A kids.length c):=by have:=cell_same (hB.block _ (cell_lt q1));simp only [Addr.add,Nat.one_ne_zero,if_false] at this q1;rw [this];exact q1
         rw [show ((0 : Nat) : Int) - 1 = -1 from rfl]
         simp only [Nat.sub_zero,List.drop_zero] at hrow
         have hm:=kM.out
         obtain ⟨hn1,hnM⟩:=kn.out
         cases hkk : kids with
         | nil =>
           subst hkk
           obtain ⟨x,hxv,hxl⟩:=leaf_lv s (ql rfl)
           rw [hxl] at hx
           have hlen : pre.length < (leaves s0.d s0.t).length:=by rw [← hx];simp
           obtain ⟨fn,tmps,assign,body,hy,hR⟩:=hY pre x T wr hJs hlen
           rw [hxv] at hy
           simp only [SP.val] at hy
           gi_hideQ
           repeat (first | (refine hR.mono ?_;clear hR;rintro e W' ⟨rfl,hJ',hk⟩) | go_values | gi_guarded | gi_step | gi_upon | gi_in | gi_back)
           dsimp only
           repeat (first | go_values | gi_guarded | gi_step | gi_upon | gi_in | gi_back)
           rw [kN.out]
           have h:=nodesOf_pos s.d s.t
           have hR' : RelL w0 O s0 J W.heap.size u3 W' (nstack st'):=⟨pre ++ [x],st',T,by rw [List.map_append,List.append_assoc];exact hx,rfl,by omega,by
            have:=ownsRow_kp hrow hk hTg
            rw [← hm]
            simpa using this,hB.trans hk.below,Nat.le_trans hBs hk.below.size,hTg,hJ'⟩
           exact ⟨⟨_,hR'⟩,Nat.lt_of_le_of_lt (leastN_le hR') (by omega)⟩
         | cons k1 ks =>
           rw [hkk] at q1w
           have hkne : ((k1 :: ks).length : Int) ≠ 0:=by simp;omega
           gi_hideQ
           repeat (first | go_values | gi_guarded | gi_step | gi_upon | gi_in | gi_back)
           refine ⟨fun _ hf => (by cases hf),?_⟩
           repeat (first | go_values | gi_guarded | gi_step | gi_upon | gi_in | gi_back)
           rw [kN.out]
           have hR' : RelL w0 O s0 J W.heap.size u3 wr (nstack (st' ++ kids.reverse)):=⟨pre,st' ++ kids.reverse,T,by rw [stackLeaves_kids,← qi (by rw [hkk];simp)];exact hx,rfl,by rw [nstack_append];omega,by
            rw [List.length_append,List.length_reverse,← hm,List.map_append]
            exact hrow,hB,hBs,hTg,hJs⟩
           exact ⟨⟨_,hR'⟩,Nat.lt_of_le_of_lt (leastN_le hR') (by rw [nstack_append];omega)⟩
       | succ j =>
         rw [show (((j + 1 : Nat) : Int) - 1) = (j : Int) by omega]
         have q1w : wr.cell? { block:=s.a.block,off:=s.a.off + 1,spot:=none } = some (.slice A kids.length c):=by have:=cell_same (hB.block _ (cell_lt q1));simp only [Addr.add,Nat.one_ne_zero,if_false] at this q1;rw [this];exact q1
         have hjl : j < kids.length:=by omega
         obtain ⟨b,rfl,hkc⟩:=qc j _ (List.getElem?_eq_getElem hjl)
         have hkw : wr.cell? (b.add j) = some (.pointer (some (kids[j]).a)):=by rw [cell_same (hB.block _ (cell_lt hkc))];exact hkc
         obtain ⟨i0,hi,hz0,hz1,hz2⟩:=info_parts wi55
         have hsm : m + (kids.length - (j + 1)) + 1 ≤ 20000000:=by have h1:=kM.out;have h2:=kn.out;have h3:=nstack_len st';omega
         have hwj : wrap64 ((j : Int) - 1) = (j : Int) - 1:=by clear hsm;unfold wrap64;omega
         gi_hideQ
         repeat (first | (gi_at_builtin;refine wpListIn_append_fresh _ rfl _ _ 61 rfl W.heap.size 55 i0 (.pointer none) 1 8 w61 hi hz0 hz1 hz2 rfl (by decide) _ _ _ rfl (hrow.alloc _) ⟨wr.heap.size,0,none⟩ 1 1 [.pointer (some (kids[j]).a)] rfl rfl (cell_one_new _ _ _) (by simp [Value.oneCell']) (by decide) (by unfold maxLen;omega) (by omega) (by simp;omega) ?_;intro v' w1 hown' hgrow hfr _) | go_values | gi_guarded | gi_step | gi_upon | gi_in | gi_back)
         refine ⟨⟨j,rfl,by omega,?_,?_,?_,fun k => T k ∨ v'.ownBlock = some k,fun g h => .inr h,?_⟩,?_⟩
         · have e1 : m + (kids.length - (j + 1)) + 1 = m + (kids.length - j):=by omega
           have e2 : st'.map SP.val ++ (kids.drop j).reverse.map SP.val = (st'.map SP.val ++ (kids.drop (j + 1)).reverse.map SP.val) ++ [.pointer (some (kids[j]).a)]:=by
            rw [List.drop_eq_getElem_cons hjl,List.reverse_cons,List.map_append,List.append_assoc];rfl
           rw [e2,← e1]
           exact hown'
         · exact (hB.alloc hB.size _).grown hgrow (by simp;exact Nat.le_succ_of_le hB.size) (fun k e => by have:=(hrow.lt k e).1;omega)
         · have:=hgrow.size;simp at this;omega
         · exact hJ _ _ _ _ _ (hJ _ _ _ _ _ hJs (turn_alloc _ _ _)) (turn_grown hown' hgrow hfr hTg)
         · simp [posOf]
theorem leaves_seq (F : Fence) (n : Nat) (h39 : F.fn 39) (hro : F.round = none) (hn : 1 ≤ n) (Bn : Nat) (w0 w1 : World) (O : Nat → Prop) (s0 : SP w0 O) (hnod : nodesOf s0.d s0.t ≤ 10000000) (hb : Below w0.heap.size w0 w1) (hc : w1.cell? ⟨Bn,0,none⟩ = some s0.val) :
 SeqX F n Try.prog 39 #[.pointer (some ⟨Bn,0,none⟩)] (fun x : LV w0 O => #[x.1.1]) (KpL w0.heap.size) (fun xs => xs.map (fun x => x.1.2) = leaves s0.d s0.t) (leaves s0.d s0.t).length w1 :=
 fun l J W hbW hJ hY h0 => leaves_in F n h39 hro hn l Bn w0 O s0 hnod J W hJ (hb.trans (hbW.mono hb.size)) ((cell_same (hbW.block _ (cell_lt hc))).trans hc) hY h0
end Go.Proofs.Ytnieankaikhmnaa

set_option linter.unusedVariables false
namespace Go.W14
open Go Go.Ev Go.RowKit Go.Proofs.Ytnieankaikhmnaa
def OX (O : Nat → Prop) (n0 nL : Nat) (T : Nat → Prop) (v : Value) (k : Nat) : Prop:=O k ∨ (n0 ≤ k ∧ k < nL + 2) ∨ T k ∨ v.ownBlock = some k
def CellsRep (W : World) (O : Nat → Prop) (ys : List PV) (xs : List Value) : Prop := ∀ (q : Nat) y,ys[q]? = some y → ∃ u,xs[q]? = some u ∧ RepV W O y u
structure OutAt (w wL : World) (O : Nat → Prop) (bx : Nat) (bt et : TypeId) (size : Nat) (v : Value) (xs : List Value) (N : Nat) (ys : List PV) (T : Nat → Prop) (W : World) : Prop where
 hO : ∀ k,O k → k < w.heap.size
 bx0 : w.heap.size ≤ bx
 bx1 : bx < wL.heap.size
 wl : Below w.heap.size w wL
 big : wL.heap.size ≤ W.heap.size
 t : ∀ k,T k → wL.heap.size ≤ k ∧ k < W.heap.size
 os : W.os = w.os
 tape : W.tape = w.tape
 output : W.output = w.output
 same : ∀ k,k < wL.heap.size → k ≠ bx → W.heap[k]? = wL.heap[k]?
 box : W.heap[bx]? = some (.cells #[v] bt (0,0))
 row : W.ownsRow (wL.heap.size + 2) et size v N xs
 apart : ∀ g,v.ownBlock = some g → ¬ T g
 len : ys.length = N * size
 rep : CellsRep W (OX O w.heap.size wL.heap.size T v) ys xs
section
variable {w wL W W' : World} {O T T' : Nat → Prop} {bx : Nat} {bt et : TypeId} {size : Nat} {v v' : Value} {xs news : List Value} {N : Nat} {ys zs : List PV}
theorem OutAt.below (h : OutAt w wL O bx bt et size v xs N ys T W) : Below w.heap.size w W :=
 ⟨h.os,h.tape,h.output,Nat.le_trans h.wl.size h.big,fun k hk => (h.same k (Nat.lt_of_lt_of_le hk h.wl.size) (fun e => by have:=h.bx0;omega)).trans (h.wl.block k hk)⟩
theorem CellsRep.move {O' : Nat → Prop} (h : CellsRep W O ys xs) (H : ∀ k,k < W.heap.size → ¬ O k → W'.heap[k]? = W.heap[k]? ∧ ¬ O' k) : CellsRep W' O' ys xs :=
 fun q y hq => let ⟨u,h1,h2⟩:=h q y hq;⟨u,h1,h2.move H⟩
theorem OutAt.turn (h : OutAt w wL O bx bt et size v xs N ys T W) (ht : Turn W T W' T') : OutAt w wL O bx bt et size v xs N ys T' W':=by
 have hT' : ∀ k,T' k → wL.heap.size ≤ k ∧ k < W'.heap.size:=fun k hk => by
  rcases ht.new k hk with q | q
  · have:=h.t k q;have:=ht.size;omega
  · have:=h.big;omega
 have nT : ∀ k,k < wL.heap.size → ¬ T k:=fun k hk hTk => by have:=h.t k hTk;omega
 have hap : ∀ g,v.ownBlock = some g → ¬ T' g:=fun g hg hTg => by
  rcases ht.new g hTg with q | q
  · exact h.apart g hg q
  · have:=(h.row.lt g hg).2;omega
 refine ⟨h.hO,h.bx0,h.bx1,h.wl,Nat.le_trans h.big ht.size,hT',ht.os.trans h.os,ht.tape.trans h.tape,ht.output.trans h.output,fun k hk hn => (ht.same k (Nat.lt_of_lt_of_le hk h.big) (nT k hk)).trans (h.same k hk hn),
  (ht.same bx (Nat.lt_of_lt_of_le h.bx1 h.big) (nT _ h.bx1)).trans h.box,?_,hap,h.len,?_⟩
 · obtain ⟨hl,(hh | ⟨g,cap,cur,rfl,hbg,hg,hr⟩)⟩:=h.row
   · exact ⟨hl,.inl hh⟩
   · refine ⟨hl,.inr ⟨g,cap,cur,rfl,hbg,?_,hr⟩⟩
     rw [ht.same g (Array.getElem?_eq_some_iff.1 hg).1 (h.apart g rfl)]
     exact hg
 · refine h.rep.move fun k hk ho => ⟨ht.same k hk fun q => ho (.inr (.inr (.inl q))),?_⟩
   rintro (q | q | q | q)
   · exact ho (.inl q)
   · exact ho (.inr (.inl q))
   · rcases ht.new k q with q' | q'
     · exact ho (.inr (.inr (.inl q')))
     · omega
   · exact ho (.inr (.inr (.inr q)))
theorem turn_below (h : Below W.heap.size W W') : Turn W T W' T :=
 ⟨h.os,h.tape,h.output,h.size,fun _ q => q,fun _ q => .inl q,fun k hk _ => h.block k hk⟩
theorem OutAt.put (h : OutAt w wL O bx bt et size v xs N ys T W) (o : Obj) : OutAt w wL O bx bt et size v xs N ys T (W.putObj (wL.heap.size + 1) o):=by
 have hsz : (W.putObj (wL.heap.size + 1) o).heap.size = W.heap.size:=by simp
 have ho : ∀ k,k ≠ wL.heap.size + 1 → (W.putObj (wL.heap.size + 1) o).heap[k]? = W.heap[k]?:=fun k hk => World.putObj_heap_other (by omega)
 refine ⟨h.hO,h.bx0,h.bx1,h.wl,by rw [hsz];exact h.big,fun k hk => by rw [hsz];exact h.t k hk,h.os,h.tape,h.output,fun k hk hn => (ho k (by omega)).trans (h.same k hk hn),(ho bx (by have:=h.bx1;omega)).trans h.box,?_,h.apart,h.len,?_⟩
 · obtain ⟨hl,(hh | ⟨g,cap,cur,rfl,hbg,hg,hr⟩)⟩:=h.row
   · exact ⟨hl,.inl hh⟩
   · exact ⟨hl,.inr ⟨g,cap,cur,rfl,hbg,(ho g (by omega)).trans hg,hr⟩⟩
 · exact h.rep.move fun k hk hn => ⟨ho k fun e => hn (.inr (.inl ⟨by have:=h.wl.size;omega,by omega⟩)),hn⟩
theorem OutAt.grow {m : Nat} {w2 : World} (h : OutAt w wL O bx bt et size v xs N ys T W) (hL : wL.heap.size + 2 ≤ W.heap.size) (hg : W.grownBy w2 v.ownBlock) (hown : w2.ownsRow (wL.heap.size + 2) et size v' (N + m) (xs ++ news))
 (hf : v'.ownBlock = v.ownBlock ∨ v'.ownBlock = some W.heap.size) (hz : zs.length = m * size) (hnew : CellsRep W (OX O w.heap.size wL.heap.size T v) zs news) :
 OutAt w wL O bx bt et size v' (xs ++ news) (N + m) (ys ++ zs) T (w2.setCell ⟨bx,0,none⟩ v') ∧ KeepsOthers W (w2.setCell ⟨bx,0,none⟩ v') ∧ KpL w.heap.size T W (w2.setCell ⟨bx,0,none⟩ v'):=by
 have hvb : ∀ g,v.ownBlock = some g → wL.heap.size + 2 ≤ g ∧ g < W.heap.size:=fun g hg => h.row.lt g hg
 have hvb' : ∀ g,v'.ownBlock = some g → wL.heap.size + 2 ≤ g:=fun g hg => (hown.lt g hg).1
 have hbxW : bx < W.heap.size:=Nat.lt_of_lt_of_le h.bx1 h.big
 have hbx2 : w2.heap[bx]? = some (.cells #[v] bt (0,0)):=(hg.block bx hbxW fun e => by have:=hvb _ e.symm;have:=h.bx1;omega).trans h.box
 have hsz : (w2.setCell ⟨bx,0,none⟩ v').heap.size = w2.heap.size:=by simp [World.setCell]
 have ho : ∀ k,k ≠ bx → (w2.setCell ⟨bx,0,none⟩ v').heap[k]? = w2.heap[k]?:=fun k hk => Below.heap_setCell _ _ _ _ hk
 have hall : ∀ k,k < W.heap.size → k ≠ bx → some k ≠ v.ownBlock → (w2.setCell ⟨bx,0,none⟩ v').heap[k]? = W.heap[k]?:=fun k hk h1 h2 => (ho k h1).trans (hg.block k hk h2)
 have hne : ∀ k,k < wL.heap.size → some k ≠ v.ownBlock:=fun k hk e => by have:=hvb _ e.symm;omega
 have hTn : ∀ k,T k → k ≠ bx ∧ some k ≠ v.ownBlock:=fun k hk => ⟨fun e => by have:=h.t k hk;have:=h.bx1;omega,fun e => h.apart k e.symm hk⟩
 have hrm : ∀ k,k < W.heap.size → ¬ OX O w.heap.size wL.heap.size T v k → (w2.setCell ⟨bx,0,none⟩ v').heap[k]? = W.heap[k]? ∧ ¬ OX O w.heap.size wL.heap.size T v' k:=by
  intro k hk hn
  refine ⟨hall k hk (fun e => hn (.inr (.inl ⟨by have:=h.bx0;omega,by have:=h.bx1;omega⟩))) (fun e => hn (.inr (.inr (.inr e.symm)))),?_⟩
  rintro (q | q | q | q)
  · exact hn (.inl q)
  · exact hn (.inr (.inl q))
  · exact hn (.inr (.inr (.inl q)))
  · rcases hf with hf | hf
    · exact hn (.inr (.inr (.inr (hf ▸ q))))
    · rw [hf] at q;cases q;omega
 have hxl : xs.length = ys.length:=by rw [h.row.1,h.len]
 refine ⟨⟨h.hO,h.bx0,h.bx1,h.wl,by rw [hsz];exact Nat.le_trans h.big hg.size,fun k hk => by rw [hsz];have:=h.t k hk;have:=hg.size;omega,hg.os.trans h.os,hg.tape.trans h.tape,hg.output.trans h.output,
  fun k hk hn => (hall k (Nat.lt_of_lt_of_le hk h.big) hn (hne k hk)).trans (h.same k hk hn),?_,?_,?_,?_,?_⟩,?_,?_⟩
 · rw [setCell_heap _ _ _ _ _ _ _ hbx2];rfl
 · obtain ⟨hl,(hh | ⟨g,cap,cur,rfl,hbg,hgg,hr⟩)⟩:=hown
   · exact ⟨hl,.inl hh⟩
   · exact ⟨hl,.inr ⟨g,cap,cur,rfl,hbg,(ho g (by have:=h.bx1;omega)).trans hgg,hr⟩⟩
 · intro g hg' hTg
   rcases hf with hf | hf
   · exact h.apart g (hf ▸ hg') hTg
   · rw [hf] at hg';cases hg';have:=h.t _ hTg;omega
 · rw [List.length_append,h.len,hz,Nat.add_mul]
 · intro q y hq
   rw [List.getElem?_append] at hq ⊢
   rw [hxl]
   split at hq
   · rename_i hlt
     rw [if_pos hlt]
     obtain ⟨u,h1,h2⟩:=h.rep q y hq
     exact ⟨u,h1,h2.move hrm⟩
   · rename_i hlt
     rw [if_neg hlt]
     obtain ⟨u,h1,h2⟩:=hnew _ y hq
     exact ⟨u,h1,h2.move hrm⟩
 · refine (KeepsOthers.of_grownBy hg fun j o ej hj => ?_).trans (KeepsOthers.setCell _ _ _)
   rcases h.row.2 with ⟨rfl,_⟩ | ⟨g,cap,cur,rfl,_,hgb,_⟩
   · simp [Value.ownBlock] at ej
   · obtain rfl : g = j:=by simpa [Value.ownBlock] using ej
     rw [hgb] at hj;cases hj;rfl
 · refine ⟨⟨hg.os,hg.tape,hg.output,by rw [hsz];exact hg.size,fun k hk => hall k (by have:=h.wl.size;have:=h.big;omega) (by have:=h.bx0;omega) (hne k (by have:=h.wl.size;omega))⟩,fun k hk => ?_⟩
   obtain ⟨h1,h2⟩:=hTn k hk
   exact hall k (h.t k hk).2 h1 h2
theorem round_below (h : Below W.heap.size W W') : KeepsOthers W W':=⟨h.size,fun k o hk _ => (h.block k (Array.getElem?_eq_some_iff.1 hk).1).trans hk⟩
theorem kpl_below (h : OutAt w wL O bx bt et size v xs N ys T W) (hb : Below W.heap.size W W') : KpL w.heap.size T W W' :=
 ⟨hb.mono (Nat.le_trans h.wl.size h.big),fun k hk => hb.block k (h.t k hk).2⟩
theorem kpl_trans {n0 : Nat} {A B C : World} (h : KpL n0 T A B) (k : KpL n0 T B C) : KpL n0 T A C:=⟨h.below.trans k.below,fun i hi => (k.rows i hi).trans (h.rows i hi)⟩
theorem kpl_put {n0 : Nat} {b : Nat} (o : Obj) (hb : n0 ≤ b) (hT : ¬ T b) : KpL n0 T W (W.putObj b o) :=
 ⟨⟨rfl,rfl,rfl,by simp,fun k hk => World.putObj_heap_other (by omega)⟩,fun k hk => World.putObj_heap_other (fun e => hT (by first | exact e ▸ hk | exact e.symm ▸ hk))⟩
end
end Go.W14

set_option linter.unusedVariables false
namespace Go.W14
open Go Go.Ev Go.RowKit Go.T14
theorem ltc_split (k : List UInt8) (l : List Ent) (n : Nat) : ltc k l = ltc k (l.take n) + ltc k (l.drop n):=by
 unfold ltc
 rw [← List.length_append,← List.filter_append,List.take_append_drop]
theorem sorted_drop {l : List Ent} (h : Sorted l) (n : Nat) : Sorted (l.drop n):=List.Pairwise.sublist (List.drop_sublist n l) h
theorem rangeL_slice (s : Sp) {l : List Ent} (h : Sorted l) : rangeL s l = (l.take (if s.e = true then ltc s.t l else l.length)).drop (ltc s.f l):=by
 have hdr:=drop_ltc (k:=s.f) h
 have hle:=ltc_le s.f l
 have e1 : rangeL s l = (l.drop (ltc s.f l)).filter fun e => (!s.e || Op.bytesLess e.k s.t):=by
  rw [hdr,List.filter_filter]
  unfold rangeL
  congr 1
  funext e
  unfold inSp
  exact Bool.and_comm ..
 rw [e1,List.drop_take]
 cases hse : s.e with
 | false =>
   rw [if_neg (by simp),List.take_of_length_le (by simp)]
   simp
 | true =>
   rw [if_pos rfl]
   have e2 : (l.drop (ltc s.f l)).filter (fun e => (!true || Op.bytesLess e.k s.t)) = (l.drop (ltc s.f l)).take (ltc s.t (l.drop (ltc s.f l))):=by
    rw [take_ltc (sorted_drop h _)]
    rfl
   rw [e2]
   congr 1
   have hs:=ltc_split s.t l (ltc s.f l)
   rcases Nat.le_total (ltc s.f l) (ltc s.t l) with hc | hc
   · have : ltc s.t (l.take (ltc s.f l)) = ltc s.f l:=by
      unfold ltc at hc ⊢
      rw [List.filter_eq_self.2,List.length_take]
      · exact Nat.min_eq_left hle
      · intro e he
        obtain ⟨i,hi⟩:=List.getElem?_of_mem he
        rw [List.getElem?_take] at hi
        split at hi
        · rename_i hlt
          exact ltc_below h (Nat.lt_of_lt_of_le hlt hc) hi
        · cases hi
     omega
   · have : ltc s.t (l.drop (ltc s.f l)) = 0:=by
      unfold ltc at hc ⊢
      rw [List.length_eq_zero_iff,List.filter_eq_nil_iff]
      intro e he
      obtain ⟨i,hi⟩:=List.getElem?_of_mem he
      rw [List.getElem?_drop] at hi
      have:=ltc_above (k:=s.t) h (i:=ltc s.f l + i) (by unfold ltc;omega) hi
      rw [this];simp
     omega
theorem flat_get {sz : Nat} : ∀ {l : List PV},(∀ x ∈ l,x.cells.length = sz) → ∀ (i j : Nat) x,l[i]? = some x → j < sz → (l.flatMap PV.cells)[i * sz + j]? = x.cells[j]?
 | [],_,i,j,x,h,_ => by simp at h
 | a :: l,hl,0,j,x,h,hj => by
   cases h
   rw [List.flatMap_cons,List.getElem?_append_left (by rw [hl _ (by simp)];omega)]
   simp
 | a :: l,hl,i + 1,j,x,h,hj => by
   have ha : a.cells.length = sz:=hl a (by simp)
   have e : (i + 1) * sz + j = a.cells.length + (i * sz + j):=by rw [ha,Nat.add_mul];omega
   rw [List.flatMap_cons,List.getElem?_append_right (by omega),e,Nat.add_sub_cancel_left]
   exact flat_get (fun x hx => hl x (by simp [hx])) i j x h hj
theorem flat_len {sz : Nat} : ∀ {l : List PV},(∀ x ∈ l,x.cells.length = sz) → (l.flatMap PV.cells).length = l.length * sz
 | [],_ => by simp
 | a :: l,hl => by
   rw [List.flatMap_cons,List.length_append,flat_len fun x hx => hl x (by simp [hx]),hl a (by simp),List.length_cons,Nat.add_mul];omega
structure Elems (sh : Option Nat) (l : List PV) : Prop where
 len : ∀ x ∈ l,x.cells.length = shN sh
 fits : ∀ x ∈ l,pvFits sh x = true
 one : ∀ x ∈ l,∀ y ∈ x.cells,isCell y = true
theorem rep_row {W : World} {O : Nat → Prop} {sh : Option Nat} {B : Nat} {et : TypeId} {v : Value} {xs : List Value} {l : List PV} (hown : W.ownsRow B et (shN sh) v l.length xs) (hl : Elems sh l) (hrep : CellsRep W O (l.flatMap PV.cells) xs) (hB : ∀ g,B ≤ g → ¬ O g) :
 RepV W O (.sl sh l) v:=by
 have hxl:=hown.1
 rcases hown.2 with ⟨rfl,h0⟩ | ⟨g,cap,cur,hv,hbg,hg,hc1,hc2,hc3,hc4⟩
 · have : l = []:=List.eq_nil_of_length_eq_zero h0
   subst this
   exact .slNil sh
 · subst hv
   have hget : ∀ (i : Nat) x (j : Nat) y,l[i]? = some x → x.cells[j]? = some y → ∃ u,xs[i * shN sh + j]? = some u ∧ RepV W O y u:=fun i x j y hi hj => by
    have hx:=hl.len x (List.mem_of_getElem? hi)
    have hjl:=(List.getElem?_eq_some_iff.1 hj).1
    exact hrep _ y (by rw [flat_get hl.len i j x hi (by omega)];exact hj)
   refine .sl sh l ⟨g,0,none⟩ cap (fun i j => xs.getD (i * shN sh + j) Go.undef) hc1 (fun i x hi => hl.fits x (List.mem_of_getElem? hi)) (fun i x j y hi hj => hl.one x (List.mem_of_getElem? hi) y (List.mem_of_getElem? hj)) (fun i x j y hi hj => hB g hbg) (fun i x j y hi hj => ?_) (fun i x j y hi hj => ?_)
   · obtain ⟨u,hu,_⟩:=hget i x j y hi hj
     rw [List.getD_eq_getElem?_getD,hu]
     exact hown.cells rfl _ u hu
   · obtain ⟨u,hu,hr⟩:=hget i x j y hi hj
     rw [List.getD_eq_getElem?_getD,hu]
     exact hr
theorem rep_cells {W : World} {O : Nat → Prop} {sh : Option Nat} {l : List PV} {u : Value} (h : RepV W O (.sl sh l) u) (hne : l ≠ []) (hl : Elems sh l) (hsz : 0 < shN sh) :
 ∃ (a : Addr) (c : Nat) (news : List Value),u = .slice (some a) l.length c ∧ l.length ≤ c ∧ news.length = l.length * shN sh ∧ (∀ q x,news[q]? = some x → W.cell? (a.add q) = some x) ∧ (∀ x ∈ news,x.oneCell' = true) ∧ CellsRep W O (l.flatMap PV.cells) news:=by
 generalize hq : PV.sl sh l = p at h
 cases h with
 | sl _ xs a c us hc hf hk ho hm hr =>
   injection hq with hq1 hq2
   subst hq1
   subst hq2
   have hcell : ∀ q,q < l.length * shN sh → ∃ x y,l[q / shN sh]? = some x ∧ x.cells[q % shN sh]? = some y:=fun q hq => by
    have h1 : q / shN sh < l.length:=(Nat.div_lt_iff_lt_mul hsz).2 hq
    have h2:=hl.len l[q / shN sh] (List.getElem_mem h1)
    have h3 : q % shN sh < l[q / shN sh].cells.length:=by rw [h2];exact Nat.mod_lt _ hsz
    exact ⟨_,_,List.getElem?_eq_getElem h1,List.getElem?_eq_getElem h3⟩
   have hdm : ∀ q,q / shN sh * shN sh + q % shN sh = q:=fun q => by rw [Nat.mul_comm];exact Nat.div_add_mod q (shN sh)
   refine ⟨a,c,(List.range (l.length * shN sh)).map fun q => us (q / shN sh) (q % shN sh),rfl,hc,by simp,fun q x hx => ?_,fun x hx => ?_,fun q y hy => ?_⟩
   · rw [List.getElem?_map] at hx
     by_cases hql : q < l.length * shN sh
     · rw [List.getElem?_range hql] at hx
       cases hx
       obtain ⟨x,y,h1,h2⟩:=hcell q hql
       have:=hm _ x _ y h1 h2
       rwa [hdm] at this
     · rw [List.getElem?_eq_none (by simp;omega)] at hx;cases hx
   · obtain ⟨q,hql,rfl⟩:=List.mem_map.1 hx
     obtain ⟨x,y,h1,h2⟩:=hcell q (by simpa using hql)
     exact ((hr _ x _ y h1 h2).one (hk _ x _ y h1 h2)).2
   · have hql : q < l.length * shN sh:=by rw [← flat_len hl.len];exact (List.getElem?_eq_some_iff.1 hy).1
     obtain ⟨x,z,h1,h2⟩:=hcell q hql
     have:=flat_get hl.len _ (q % shN sh) x h1 (Nat.mod_lt _ hsz)
     rw [hdm,hy,h2] at this
     cases this
     exact ⟨_,by rw [List.getElem?_map,List.getElem?_range hql];rfl,hr _ x _ y h1 h2⟩
 | slNil sh => injection hq with _ h2;exact absurd h2 hne
 | _ => cases hq
def OR (O : Nat → Prop) (n0 n1 : Nat) (k : Nat) : Prop:=O k ∨ (n0 ≤ k ∧ k < n1)
theorem or_lt {O : Nat → Prop} {n0 n1 : Nat} (hO : ∀ k,O k → k < n0) (h : n0 ≤ n1) : ∀ k,OR O n0 n1 k → k < n1:=fun k q => by
 rcases q with q | q
 · have:=hO k q;omega
 · exact q.2
theorem rep_in {w W : World} {O : Nat → Prop} {p : PV} {v : Value} (h : RepV w O p v) (hb : Below w.heap.size w W) : RepV W (OR O w.heap.size W.heap.size) p v :=
 h.move fun k hk hn => ⟨hb.block k hk,fun q => by rcases q with q | q;exact hn q;omega⟩
theorem OutAt.or_ox {w wL W W2 : World} {O T : Nat → Prop} {bx : Nat} {bt et : TypeId} {size : Nat} {v : Value} {xs : List Value} {N : Nat} {ys : List PV} (h : OutAt w wL O bx bt et size v xs N ys T W) (hL : wL.heap.size + 2 ≤ W.heap.size) (hb : Below W.heap.size W W2) :
 ∀ k,¬ OR O w.heap.size W2.heap.size k → ¬ OX O w.heap.size wL.heap.size T v k:=by
 intro k hn q
 have hs:=hb.size
 have hw:=h.wl.size
 rcases q with q | q | q | q
 · exact hn (.inl q)
 · exact hn (.inr ⟨q.1,by omega⟩)
 · have:=h.t k q;exact hn (.inr ⟨by omega,by omega⟩)
 · have:=h.row.lt k q;exact hn (.inr ⟨by omega,by omega⟩)
theorem sl_inv {W : World} {O : Nat → Prop} {sh : Option Nat} {l : List PV} {u : Value} (h : RepV W O (.sl sh l) u) : ∃ A c,u = .slice A l.length c ∧ l.length ≤ c:=by
 generalize hq : PV.sl sh l = p at h
 cases h with
 | slNil sh => injection hq with _ h2;subst h2;exact ⟨_,_,rfl,Nat.le_refl _⟩
 | sl _ xs a c us hc => injection hq with _ h2;subst h2;exact ⟨_,_,rfl,hc⟩
 | _ => cases hq
theorem OutAt.final {w wL W : World} {O T : Nat → Prop} {bx : Nat} {bt et : TypeId} {sh : Option Nat} {v : Value} {xs : List Value} {l : List PV} (h : OutAt w wL O bx bt et (shN sh) v xs l.length (l.flatMap PV.cells) T W) (hl : Elems sh l) (o : Obj) :
 RepV (W.putObj wL.heap.size o) O (.sl sh l) v ∧ Below w.heap.size w (W.putObj wL.heap.size o):=by
 have hsz : (W.putObj wL.heap.size o).heap.size = W.heap.size:=by simp
 have hother : ∀ k,k ≠ wL.heap.size → (W.putObj wL.heap.size o).heap[k]? = W.heap[k]?:=fun k hk => World.putObj_heap_other (by omega)
 have hw:=h.wl.size
 refine ⟨?_,⟨h.os,h.tape,h.output,by rw [hsz];exact Nat.le_trans hw h.big,fun k hk => (hother k (by omega)).trans (h.below.block k hk)⟩⟩
 have hr : RepV W (fun k => O k ∨ k = wL.heap.size) (.sl sh l) v:=by
  refine rep_row (B:=wL.heap.size + 2) (et:=et) (xs:=xs) h.row hl (h.rep.move fun k hk hn => ⟨rfl,?_⟩) (fun g hg q => ?_)
  · rintro (q | q)
    · exact hn (.inl q)
    · exact hn (.inr (.inl ⟨by omega,by omega⟩))
  · rcases q with q | q
    · have:=h.hO g q;omega
    · omega
 exact hr.move fun k hk hn => ⟨hother k fun e => hn (.inr e),fun q => hn (.inl q)⟩
end Go.W14

set_option linter.unusedVariables false
namespace Go.W14
open Go Go.Ev
def left (l : List Bool) : Nat:=(l.filter fun b => !b).length
theorem left_set : ∀ {l : List Bool} {i : Nat},l[i]? = some false → left (l.set i true) + 1 = left l
 | [],i,h => by simp at h
 | b :: l,0,h => by cases h;simp [left]
 | b :: l,i + 1,h => by
   have ih:=left_set (l:=l) (i:=i) h
   cases b <;> simp only [left,List.set_cons_succ,List.filter_cons,Bool.not_false,Bool.not_true,if_true,List.length_cons] at ih ⊢
   · omega
   · simpa using ih
theorem left_zero : ∀ {l : List Bool},left l = 0 → ∀ i,l.getD i true = true
 | [],_,i => by simp
 | b :: l,h,i => by
   cases b with
   | false => simp [left] at h
   | true =>
     have h' : left l = 0:=by simpa [left] using h
     cases i with
     | zero => rfl
     | succ i => exact left_zero h' i
variable {F : Fence} {n : Nat} {P : Program}
theorem wpIn_region_inv {id : Nat} {ops : Array Oper} {Q : Exit → Act → World → Prop} {a : Act} {w : World} (hm : P.follows .mixedOrders = true) (hback : edgesBack ops.toList 0 = true) (hg : ∀ o ∈ ops.toList,o.guard = none)
 (Inv : (Nat → Bool) → Act → World → Prop) (h0 : Inv (fun _ => false) a w.drew)
 (step : ∀ ls a w (K : Act → World → Prop) i o,Inv ls a w → ops[i]? = some o → ls i = false → (∀ e ∈ o.after,Region.binds .any e = true → ls e.on = true) → (∀ a' w',Inv (fun k => if k = i then true else ls k) a' w' → K a' w') → Oper.wpIn F n P o a w K Q)
 (fin : ∀ ls a w,Inv ls a w → (∀ i,i < ops.size → ls i = true) → Q .normal a w) : (Code.region id ops true).wpIn F n P Q a w:=by
 have key : ∀ (fuel : Nat) (listed : Array Bool) (a : Act) (w : World),listed.size = ops.size → left listed.toList ≤ fuel → Inv (fun k => listed.getD k false) a w → wpAnyIn F n P .any ops Q fuel listed a w:=by
  intro fuel
  have hready : ∀ (listed : Array Bool),listed.size = ops.size → Region.ready .any ops listed = [] → ∀ i,i < ops.size → listed.getD i false = true:=by
   intro listed hsz hnil i
   induction i using Nat.strongRecOn with
   | _ i ih =>
     intro hi
     cases hl : listed.getD i false with
     | true => rfl
     | false =>
       exfalso
       have ho : ops[i]? = some ops[i]:=Array.getElem?_eq_getElem hi
       have : i ∈ Region.ready .any ops listed:=by
        refine mem_ready.2 ⟨by rw [getD_two (by omega)];exact hl,ops[i],ho,fun e he hb => ?_⟩
        have hlt:=edgesBack_spec hback i ops[i] (by simp) e he hb
        rw [Nat.zero_add] at hlt
        exact ih e.on hlt (by omega)
       rw [hnil] at this
       cases this
  induction fuel with
  | zero =>
    intro listed a w hsz hle hinv
    have hz:=left_zero (Nat.le_zero.1 hle)
    have hall : ∀ i,i < ops.size → listed.getD i false = true:=fun i hi => by
     have:=hz i
     rw [← getD_two (by omega)]
     simpa [Array.getD_eq_getD_getElem?] using this
    refine ⟨?_,fin _ a w hinv hall⟩
    rw [List.eq_nil_iff_forall_not_mem]
    intro j hj
    obtain ⟨h1,o,ho,_⟩:=mem_ready.1 hj
    have hjs:=(Array.getElem?_eq_some_iff.1 ho).1
    rw [getD_two (by omega),hall j hjs] at h1
    cases h1
  | succ fuel ih =>
    intro listed a w hsz hle hinv
    refine ⟨fun hnil => fin _ a w hinv (hready listed hsz hnil),fun i hi => ?_⟩
    obtain ⟨h1,o,ho,hall⟩:=mem_ready.1 hi
    have his:=(Array.getElem?_eq_some_iff.1 ho).1
    rw [getD_two (by omega)] at h1
    have hgo : o.guard = none:=hg o (List.mem_of_getElem? (i:=i) (by simpa using ho))
    refine wpOpIn_step ho fun K' hK' => ?_
    rw [if_pos (by simp [Region.wanted,hgo])]
    refine step _ a w K' i o hinv ho h1 hall fun a' w' hinv' => hK' _ _ (ih _ a' w' (by simpa using hsz) ?_ ?_)
    · have hli : listed.toList[i]? = some false:=by
       have : listed[i]? = some false:=by
        have hlt : i < listed.size:=by omega
        rw [Array.getElem?_eq_getElem hlt]
        simpa [Array.getD_eq_getD_getElem?,hlt] using h1
       simpa using this
      have:=left_set hli
      rw [Array.toList_setIfInBounds]
      omega
    · have e : (fun k => (listed.setIfInBounds i true).getD k false) = fun k => if k = i then true else listed.getD k false:=by
       funext k
       simp only [Array.getD_eq_getD_getElem?,Array.getElem?_setIfInBounds]
       by_cases hk : i = k
       · subst hk
         rw [if_pos rfl,if_pos (by omega),if_pos rfl]
         rfl
       · rw [if_neg hk,if_neg (fun e => hk e.symm)]
      rw [e]
      exact hinv'
 refine wpIn_region_any hm (key ops.size _ a w.drew (by simp) ?_ ?_)
 · simp only [left]
   refine Nat.le_trans (List.length_filter_le _ _) (by simp)
 · have e : (fun k => (Array.replicate ops.size false).getD k false) = fun _ => false:=by
    funext k
    simp only [Array.getD_eq_getD_getElem?,Array.getElem?_replicate]
    split <;> rfl
   rw [e]
   exact h0
end Go.W14
namespace Go.W14
open Go Go.Ev
def SF (L : List (Nat × Option Nat × Value)) (ls : Nat → Bool) (a : Act) : Prop := ∀ e ∈ L,(∀ j,e.2.1 = some j → ls j = true) → a.tmps.getD e.1 undef = e.2.2
theorem SF.get {L : List (Nat × Option Nat × Value)} {ls : Nat → Bool} {a : Act} (h : SF L ls a) {k j : Nat} {v : Value} (he : (k,some j,v) ∈ L) (hj : ls j = true) : a.tmps.getD k undef = v :=
 h _ he fun i hi => by cases hi;exact hj
theorem SF.base {L : List (Nat × Option Nat × Value)} {ls : Nat → Bool} {a : Act} (h : SF L ls a) {k : Nat} {v : Value} (he : (k,none,v) ∈ L) : a.tmps.getD k undef = v :=
 h _ he fun i hi => by cases hi
theorem SF.start {L : List (Nat × Option Nat × Value)} {a : Act} (h : ∀ e ∈ L,e.2.1 = none → a.tmps.getD e.1 undef = e.2.2) : SF L (fun _ => false) a:=fun e he hj => by
 cases hn : e.2.1 with
 | none => exact h e he hn
 | some j => exact absurd (hj j hn) (by simp)
theorem SF.put {L : List (Nat × Option Nat × Value)} {ls : Nat → Bool} {a : Act} {d i : Nat} {val : Value} (h : SF L ls a) (hsz : d < a.tmps.size) (hL : ∀ e ∈ L,if e.1 = d then e.2.1 = some i ∧ e.2.2 = val else e.2.1 ≠ some i) :
 SF L (fun k => if k = i then true else ls k) (a.put (some d) val):=by
 intro e he hj
 have hLe:=hL e he
 show (a.tmps.setIfInBounds d val).getD e.1 undef = e.2.2
 rw [Array.getD_eq_getD_getElem?,Array.getElem?_setIfInBounds]
 by_cases hd : e.1 = d
 · rw [if_pos hd] at hLe
   rw [if_pos hd.symm,if_pos (by omega)]
   exact hLe.2.symm
 · rw [if_neg hd] at hLe
   rw [if_neg (fun q => hd q.symm),← Array.getD_eq_getD_getElem?]
   refine h e he fun j hj' => ?_
   have:=hj j hj'
   have h2 : j ≠ i:=fun q => hLe (by rw [hj',q])
   simpa [h2] using this
theorem step_append_fresh {F : Fence} {n : Nat} {P : Program} (w : World) {o : Oper} {a : Act} {K : Act → World → Prop} {Q : Exit → Act → World → Prop}
 (s x : Operand) (t : TypeId) (hop : o.op = Op.call { callee:=Callee.builtin Builtin.append,args := #[s,x],argTypes := #[t,t] })
 (base : Nat) (e : TypeId) (i : TypeInfo) (z : Value) (size bytes : Nat) (h1 : P.underlying t = some (.slice e)) (h2 : P.info? e = some i) (h3 : i.zero = some z) (h4 : i.size = size) (h5 : i.bytes = bytes) (h6 : z.cells.size = size) (h7 : 0 < size)
 (v : Value) (k : Nat) (xs : List Value) (hs : a.eval s = v) (hown : w.ownsRow base e size v k xs) (ad : Addr) (m c : Nat) (news : List Value) (hx : a.eval x = .slice (some ad) m c) (hn : news.length = m * size)
 (hc : ∀ j u,news[j]? = some u → w.cell? (ad.add j) = some u) (h1c : ∀ u ∈ news,u.oneCell' = true) (hm : 0 < m) (b1 : k + m ≤ maxLen) (b2 : (k + m) * bytes ≤ 140737488355328) (b3 : base ≤ w.heap.size)
 (hK : ∀ v' w',w'.ownsRow base e size v' (k + m) (xs ++ news) → w.grownBy w' v.ownBlock → (v'.ownBlock = v.ownBlock ∨ v'.ownBlock = some w.heap.size) → (∃ g,v'.ownBlock = some g) → K (a.put o.dst v') w') :
 Oper.wpIn F n P o a w K Q:=by
 obtain ⟨v',w',hrun,r1,r2,r3,r4⟩:=run_append_fresh (P:=P) (w:=w) base t o.type e i z size bytes h1 h2 h3 h4 h5 h6 h7 v k xs hown ad m c news hn hc h1c hm b1 b2 b3
 unfold Oper.wpIn
 refine ⟨?_,?_⟩
 · simp [Oper.about,hop,resolve,Target.leads,Sem.run_pure]
 · rw [Oper.semAt_plain F _ _ (by rw [hop];intro c hc';cases hc')]
   simp [execOp,hop,resolve,invoke,builtin,hs,hx,hrun,Result.andThen]
   exact hK v' w' r1 r2 r3 r4
end Go.W14
namespace Go.W14
inductive WF3 (A B C D : Prop) : Bool → Bool → Bool → Prop
 | p0 (h : A) : WF3 A B C D false false false
 | p1 (h : B) : WF3 A B C D true false false
 | p2 (h : C) : WF3 A B C D true true false
 | p3 (h : D) : WF3 A B C D true true true
end Go.W14
namespace Go.W14
theorem WF3.low {A B C D : Prop} {b8 b10 : Bool} (h : WF3 A B C D b8 false b10) : (A ∨ B) ∧ b10 = false:=by
 cases h with
 | p0 h => exact ⟨.inl h,rfl⟩
 | p1 h => exact ⟨.inr h,rfl⟩
theorem WF3.start {A B C D : Prop} {b9 b10 : Bool} (h : WF3 A B C D false b9 b10) : A ∧ b9 = false ∧ b10 = false:=by
 cases h with
 | p0 h => exact ⟨h,rfl,rfl⟩
theorem WF3.mid {A B C D : Prop} {b10 : Bool} (h : WF3 A B C D true false b10) : B ∧ b10 = false:=by
 cases h with
 | p1 h => exact ⟨h,rfl⟩
theorem WF3.end_ {A B C D : Prop} {b8 : Bool} (h : WF3 A B C D b8 true false) : C ∧ b8 = true:=by
 cases h with
 | p2 h => exact ⟨h,rfl⟩
end Go.W14
namespace Go.W14
open Go Go.Ev
theorem SF.swap {L L' : List (Nat × Option Nat × Value)} {ls : Nat → Bool} {a : Act} (h : SF L ls a) (hL : ∀ e ∈ L',e ∈ L ∨ ∃ j,e.2.1 = some j ∧ ls j = false) : SF L' ls a:=fun e he hj => by
 rcases hL e he with q | ⟨j,h1,h2⟩
 · exact h e q hj
 · rw [hj j h1] at h2;cases h2
end Go.W14
namespace Go.W14
open Go Go.Ev
theorem SF.idle {L : List (Nat × Option Nat × Value)} {ls : Nat → Bool} {a : Act} {i : Nat} (h : SF L ls a) (hL : ∀ e ∈ L,e.2.1 ≠ some i) : SF L (fun k => if k = i then true else ls k) a:=fun e he hj => h e he fun j hj' => by
 have:=hj j hj'
 have h2 : j ≠ i:=fun q => hL e he (by rw [hj',q])
 simpa [h2] using this
end Go.W14

