/- An evaluator of the model's code over pure data, and why it is right: part 5. -/
import Derived.Test.YtnieankaikhmnaaEvd
import Derived.Orders

set_option linter.unusedVariables false

set_option linter.unusedSimpArgs false

set_option linter.unusedSectionVars false

namespace Go.Ev
def Same (a b : Slots) : Prop := ∀ t,a.get t = b.get t
theorem Same.refl (a : Slots) : Same a a:=fun _ => rfl
theorem Same.symm {a b : Slots} (h : Same a b) : Same b a:=fun t => (h t).symm
theorem Same.trans {a b c : Slots} (h : Same a b) (g : Same b c) : Same a c:=fun t => (h t).trans (g t)
def Cut.one (k : Cut) (s : Nat) (v : SV) : SV:=match k with
 | .no => v
 | .all => SV.cutAll s v
 | .cells lo n => SV.cutCells s lo n v
theorem get_cut (k : Cut) (s : Nat) (st : Slots) (t : Nat) : (k.on s st).get t = k.one s (st.get t):=by
 rw [get_on];cases k <;> rfl
theorem get_e (e : Edit) (st : Slots) (t : Nat) : (e.on st).get t = if t = e.s then e.v else e.cut.one e.s (st.get t):=by rw [get_edit,get_cut]
theorem Cut.one_dead (k : Cut) (s : Nat) : k.one s .dead = .dead:=by cases k <;> rfl
theorem Cut.one_or (k : Cut) (s : Nat) (v : SV) : k.one s v = v ∨ k.one s v = .dead:=by
 cases k with
 | no => exact .inl rfl
 | all =>
   simp only [Cut.one,SV.cutAll]
   split
   · split
     · exact .inr rfl
     · exact .inl rfl
   · exact .inl rfl
 | cells lo n =>
   simp only [Cut.one,SV.cutCells]
   split
   · split
     · exact .inr rfl
     · exact .inl rfl
   · exact .inl rfl
theorem Cut.one_idem (k : Cut) (s : Nat) (v : SV) : k.one s (k.one s v) = k.one s v:=by
 rcases k.one_or s v with h | h
 · rw [h,h]
 · rw [h,Cut.one_dead]
theorem Cut.one_comm (k l : Cut) (s t : Nat) (v : SV) : k.one s (l.one t v) = l.one t (k.one s v):=by
 rcases k.one_or s v with h | h <;> rcases l.one_or t v with g | g
 · rw [h,g,h]
 · rw [h,g,Cut.one_dead]
 · rw [h,g,h,Cut.one_dead]
 · rw [h,g,Cut.one_dead,Cut.one_dead]
theorem Cut.one_far (k : Cut) (s : Nat) {v : SV} (h : v.root ≠ some s) : k.one s v = v:=by
 cases k with
 | no => rfl
 | all =>
   simp only [Cut.one,SV.cutAll]
   split
   · rename_i r hr
     rw [nbeq fun e => h (by rw [hr,e])]
   · rfl
 | cells lo n =>
   simp only [Cut.one,SV.cutCells]
   split
   · rename_i r c m hr
     have hroot : v.root = some r:=by
      cases v with
      | ref a b => cases b <;> simp_all [SV.root,SV.rootc]
      | adre a b i o => cases b <;> simp_all [SV.root,SV.rootc]
      | view a b i o => cases b <;> simp_all [SV.root,SV.rootc]
      | rng a b c => simp_all [SV.root,SV.rootc]
      | _ => simp_all [SV.root,SV.rootc]
     have : Nat.beq r s = false:=nbeq fun e => h (by rw [hroot,e])
     simp [this]
   · rfl
theorem on_congr {a b : Slots} (h : Same a b) (e : Edit) : Same (e.on a) (e.on b):=by
 intro t
 rw [get_e,get_e,h t]
theorem edits_congr {a b : Slots} (h : Same a b) : ∀ es : List Edit,Same (edits es a) (edits es b):=by
 intro es
 induction es generalizing a b with
 | nil => exact h
 | cons e es ih => exact ih (on_congr h e)
theorem on_comm {e f : Edit} (hs : e.s ≠ f.s) (he : e.v.root ≠ some f.s) (hf : f.v.root ≠ some e.s) (st : Slots) : Same (e.on (f.on st)) (f.on (e.on st)):=by
 intro t
 rw [get_e,get_e,get_e,get_e]
 by_cases h1 : t = e.s
 · rw [if_pos h1]
   by_cases h2 : t = f.s
   · exact absurd (h1.symm.trans h2) hs
   · rw [if_neg h2,if_pos h1,Cut.one_far _ _ he]
 · rw [if_neg h1]
   by_cases h2 : t = f.s
   · rw [if_pos h2,if_pos h2,Cut.one_far _ _ hf]
   · rw [if_neg h2,if_neg h2,if_neg h1,Cut.one_comm]
theorem on_edits_comm {e : Edit} : ∀ (fs : List Edit) (st : Slots),(∀ f ∈ fs,f.s ≠ e.s ∧ e.v.root ≠ some f.s ∧ f.v.root ≠ some e.s) → Same (e.on (edits fs st)) (edits fs (e.on st))
 | [],st,_ => Same.refl _
 | f :: fs,st,h => by
   obtain ⟨h1,h2,h3⟩:=h f (by simp)
   exact (on_edits_comm fs (f.on st) fun g hg => h g (by simp [hg])).trans (edits_congr (on_comm (fun x => h1 x.symm) h2 h3 st) fs)
theorem on_same {e p : Edit} (hs : p.s = e.s) (hc : p.cut = e.cut) (st : Slots) : Same (e.on (p.on st)) (e.on st):=by
 intro t
 rw [get_e,get_e,get_e,hs,hc]
 by_cases h1 : t = e.s
 · rw [if_pos h1,if_pos h1]
 · rw [if_neg h1,if_neg h1,if_neg h1,Cut.one_idem]
theorem edits_comm : ∀ (es fs : List Edit) (st : Slots),(∀ e ∈ es,∀ f ∈ fs,f.s ≠ e.s ∧ e.v.root ≠ some f.s ∧ f.v.root ≠ some e.s) → Same (edits es (edits fs st)) (edits fs (edits es st))
 | [],fs,st,_ => Same.refl _
 | e :: es,fs,st,h => by
   have h1:=on_edits_comm (e:=e) fs st fun f hf => h e (by simp) f hf
   exact (edits_congr h1 es).trans (edits_comm es fs (e.on st) fun x hx => h x (by simp [hx]))
inductive Twofold : List Edit → List Edit → List Edit → Prop
 | nil : Twofold [] [] []
 | once (e : Edit) (es ps bs : List Edit) (h : Twofold es ps bs) : Twofold (e :: es) (e :: ps) bs
 | twice (e p : Edit) (es ps bs : List Edit) (hs : p.s = e.s) (hc : p.cut = e.cut) (h : Twofold es ps bs) : Twofold (e :: es) (p :: ps) (e :: bs)
theorem Twofold.append : ∀ {es ps bs es' ps' bs' : List Edit},Twofold es ps bs → Twofold es' ps' bs' → Twofold (es ++ es') (ps ++ ps') (bs ++ bs')
 | _,_,_,_,_,_,.nil,h => h
 | _,_,_,_,_,_,.once e es ps bs h,g => .once e _ _ _ (h.append g)
 | _,_,_,_,_,_,.twice e p es ps bs hs hc h,g => .twice e p _ _ _ hs hc (h.append g)
theorem Twofold.slots : ∀ {es ps bs : List Edit},Twofold es ps bs → (ps.map (·.s) = es.map (·.s)) ∧ (∀ b ∈ bs,b ∈ es)
 | _,_,_,.nil => ⟨rfl,fun b hb => hb⟩
 | _,_,_,.once e es ps bs h => by
   obtain ⟨h1,h2⟩:=h.slots
   exact ⟨by simp [h1],fun b hb => by simp [h2 b hb]⟩
 | _,_,_,.twice e p es ps bs hs hc h => by
   obtain ⟨h1,h2⟩:=h.slots
   refine ⟨by simp [h1,hs],fun b hb => ?_⟩
   rcases List.mem_cons.1 hb with rfl | hb
   · simp
   · simp [h2 b hb]
def Rootless (es : List Edit) : Prop := ∀ e ∈ es,e.v.root = none
theorem Twofold.same : ∀ {es ps bs : List Edit},Twofold es ps bs → onceEach es = true → Rootless es → Rootless ps → ∀ st,Same (edits es st) (edits bs (edits ps st))
 | _,_,_,.nil,_,_,_,st => Same.refl _
 | _,_,_,.once e es ps bs h,ho,hr,hp,st => by
   simp only [onceEach,Bool.and_eq_true] at ho
   exact h.same ho.2 (fun x hx => hr x (by simp [hx])) (fun x hx => hp x (by simp [hx])) _
 | _,_,_,.twice e p es ps bs hs hc h,ho,hr,hp,st => by
   simp only [onceEach,Bool.and_eq_true] at ho
   have hp' : Rootless ps:=fun x hx => hp x (by simp [hx])
   have ih:=h.same ho.2 (fun x hx => hr x (by simp [hx])) hp' (e.on st)
   have hps : ∀ f ∈ ps,f.s ≠ e.s:=by
    intro f hf he
    have : f.s ∈ es.map (·.s):=by rw [← h.slots.1];exact List.mem_map.2 ⟨f,hf,rfl⟩
    rw [he] at this
    exact (notOn_iff.1 ho.1) this
   refine ih.trans ?_
   show Same (edits bs (edits ps (e.on st))) (edits bs (e.on (edits ps (p.on st))))
   refine edits_congr ?_ bs
   refine Same.symm ?_
   refine (on_edits_comm ps (p.on st) fun f hf => ⟨hps f hf,by rw [hr e (by simp)];simp,by rw [hp' f hf];simp⟩).trans ?_
   exact edits_congr (on_same hs hc st) ps
end Go.Ev

namespace Go.Ev
section
variable {P : Program} {w w' : World} {O O' : Nat → Prop}
def PV.isPlain : PV → Prop
 | .int _ _ => True
 | .bool _ => True
 | .str _ => True
 | _ => False
theorem RepV.plain {v : PV} {u : Value} (hp : v.isPlain) (h : RepV w O v u) : RepV w' O' v u:=by
 cases v <;> simp [PV.isPlain] at hp
 · cases h;exact .bool _
 · cases h;exact .int _ _
 · cases h;exact .str _
theorem cellTys_plain : ∀ (d : Nat) (t : TypeId),tPlain P d t = true → ∀ ct ∈ cellTys P d t,P.underlying ct = some .bool ∨ (∃ k,P.underlying ct = some (.int k)) ∨ P.underlying ct = some .string
 | 0,t,h,_,_ => by simp [tPlain] at h
 | d + 1,t,h,ct,hct => by
   unfold tPlain at h
   unfold cellTys at hct
   split at h
   · rename_i hu;rw [hu] at hct;simp at hct;subst hct;exact .inl hu
   · rename_i k hu;rw [hu] at hct;simp at hct;subst hct;exact .inr (.inl ⟨k,hu⟩)
   · rename_i hu;rw [hu] at hct;simp at hct;subst hct;exact .inr (.inr hu)
   · rename_i fs hu
     rw [hu] at hct
     simp only [List.mem_flatMap] at hct
     obtain ⟨f,hf,hct⟩:=hct
     exact cellTys_plain d f.type (List.all_eq_true.1 h f hf) ct hct
   · rename_i n e hu
     rw [hu] at hct
     simp only [List.mem_flatten,List.mem_replicate] at hct
     obtain ⟨l,⟨_,rfl⟩,hct⟩:=hct
     exact cellTys_plain d e h ct hct
   · cases h
theorem has1_plain {ct : TypeId} (h : P.underlying ct = some .bool ∨ (∃ k,P.underlying ct = some (.int k)) ∨ P.underlying ct = some .string) {v : PV} (hv : has1 P ct v = true) : v.isPlain:=by
 unfold has1 at hv
 rcases h with h | ⟨k,h⟩ | h <;> rw [h] at hv <;> cases v <;> simp_all [PV.isPlain]
theorem hasCells_plain : ∀ (ts : List TypeId) (cs : List PV),(∀ ct ∈ ts,P.underlying ct = some .bool ∨ (∃ k,P.underlying ct = some (.int k)) ∨ P.underlying ct = some .string) → hasCells P ts cs = true → ∀ c ∈ cs,c.isPlain
 | [],cs,_,h,c,hc => by
   simp only [hasCells,List.isEmpty_iff] at h
   subst h;cases hc
 | t :: ts,[],_,h,c,hc => by cases hc
 | t :: ts,c :: cs,ht,h,x,hx => by
   simp only [hasCells,Bool.and_eq_true] at h
   rcases List.mem_cons.1 hx with rfl | hx
   · exact has1_plain (ht t (by simp)) h.1
   · exact hasCells_plain ts cs (fun ct hct => ht ct (by simp [hct])) h.2 x hx
theorem plain_rep {t : TypeId} (hp : tPlain P 8 t = true) {v : PV} (hv : hasT P t v = true) {u : Value} (h : RepV w O v u) : RepV w' O' v u:=by
 have hct:=cellTys_plain 8 t hp
 unfold hasT at hv
 split at hv
 · rename_i n hs
   simp only [Bool.and_eq_true] at hv
   have hc:=hasCells_plain _ _ hct hv.2
   cases v <;> simp [isAgg] at hv
   rename_i cs
   cases h with
   | agg _ vs us hl hk hm hr => exact .agg cs vs us hl hk hm fun j y hj => (hr j y hj).plain (hc y (List.mem_of_getElem? hj))
 · rename_i hs
   refine h.plain (has1_plain ?_ hv)
   unfold tPlain at hp
   split at hp
   · rename_i hu;exact .inl hu
   · rename_i k hu;exact .inr (.inl ⟨k,hu⟩)
   · rename_i hu;exact .inr (.inr hu)
   · rename_i fs hu
     exfalso
     obtain ⟨i,hi⟩:=info_of_underlying hu
     exact hs i.size (by simp [tShape,hi,hu])
   · rename_i n e hu
     exfalso
     obtain ⟨i,hi⟩:=info_of_underlying hu
     exact hs i.size (by simp [tShape,hi,hu])
   · cases hp
theorem cells_plain {t : TypeId} (hp : tPlain P 8 t = true) {v : PV} (hv : hasT P t v = true) : ∀ y ∈ v.cells,y.isPlain:=by
 have hct:=cellTys_plain 8 t hp
 unfold hasT at hv
 split at hv
 · rename_i n hs
   simp only [Bool.and_eq_true] at hv
   exact hasCells_plain _ _ hct hv.2
 · rename_i hs
   have hvp : v.isPlain:=by
    refine has1_plain ?_ hv
    unfold tPlain at hp
    split at hp
    · rename_i hu;exact .inl hu
    · rename_i k hu;exact .inr (.inl ⟨k,hu⟩)
    · rename_i hu;exact .inr (.inr hu)
    · rename_i fs hu
      exfalso
      obtain ⟨i,hi⟩:=info_of_underlying hu
      exact hs i.size (by simp [tShape,hi,hu])
    · rename_i n e hu
      exfalso
      obtain ⟨i,hi⟩:=info_of_underlying hu
      exact hs i.size (by simp [tShape,hi,hu])
    · cases hp
   intro y hy
   cases v <;> simp_all [PV.cells,PV.isPlain]
def FV.typed (P : Program) (t : TypeId) : FV → Bool
 | .val v => hasT P t v
 | .own _ xs sp => okRow P t xs sp
 | _ => true
theorem FRep.plain {t : TypeId} {f : FV} {u : Value} {m : Option Nat} (hp : fvPlain P t f = true) (ht : f.typed P t = true) (h : FRep w O f u m) : FRep w O' f u m:=by
 cases h with
 | val v u h => exact .val _ _ (plain_rep hp ht h)
 | nil sh => exact .nil sh
 | ownE sh A => exact .ownE sh A
 | own sh xs sp b c cur e fr us h =>
   simp only [fvPlain] at hp
   simp only [FV.typed,okRow] at ht
   cases he : tElem P t with
   | none => rw [he] at hp;cases hp
   | some et =>
     rw [he] at hp ht
     dsimp only at hp ht
     rw [hp] at ht
     simp only [Bool.and_eq_true,List.all_eq_true] at ht
     refine .own sh xs sp b c cur e fr us { heap:=h.heap,thaw:=h.thaw,size:=h.size,len:=h.len,fits:=h.fits,cell:=h.cell,at_:=h.at_,rep:=fun i x j y h1 h2 => (h.rep i x j y h1 h2).plain (cells_plain hp (ht.1 x (List.mem_of_getElem? h1)) y (List.mem_of_getElem? h2)),spare:=fun j y h1 => ?_,capL:=h.capL,spL:=h.spL }
     obtain ⟨v,v1,v2⟩:=h.spare j y h1
     exact ⟨v,v1,plain_rep hp (ht.2 y (List.mem_of_getElem? h1)) v2⟩
 | gone u => exact .gone u
def typedFs (P : Program) : List TypeId → List FV → Bool
 | t :: ts,f :: fs => f.typed P t && typedFs P ts fs
 | _,_ => true
def OV.typed (P : Program) (t : TypeId) : OV → Bool
 | .flat f => f.typed P t
 | .cont .agg cs => typedFs P (cellTys P 8 t) cs
 | .cont .nest cs => nestOk P t cs
 | _ => true
theorem nest_plain {t e : TypeId} {cs : List FV} (hn : nestElem P t = some e) (ht : nestOk P t cs = true) {j : Nat} {f : FV} (hj : cs[j]? = some f) : fvPlain P e f = true ∧ f.typed P e = true:=by
 unfold nestOk at ht
 rw [hn] at ht
 have hc : nestCell P e f = true:=List.all_eq_true.1 ht f (List.mem_of_getElem? hj)
 unfold nestElem at hn
 split at hn
 · split at hn
   · rename_i e1 _ e2 he2
     split at hn
     · rename_i hp
       cases hn
       cases f with
       | own sh xs sp => exact ⟨by simp [fvPlain,he2,hp],hc⟩
       | nil sh => exact ⟨rfl,rfl⟩
       | val => simp [nestCell] at hc
       | gone => simp [nestCell] at hc
     · cases hn
   · cases hn
 · cases hn
theorem fields_plain : ∀ (ts : List TypeId) (cs : List FV),fieldsPlain P ts cs = true → typedFs P ts cs = true → ∀ (j : Nat) (f : FV),cs[j]? = some f → ∃ t,fvPlain P t f = true ∧ f.typed P t = true
 | [],[],_,_,j,f,hj => by simp at hj
 | [],_ :: _,h,_,_,_,_ => by simp [fieldsPlain] at h
 | _ :: _,[],h,_,_,_,_ => by simp [fieldsPlain] at h
 | t :: ts,c :: cs,h,ht,j,f,hj => by
   simp only [fieldsPlain,Bool.and_eq_true] at h
   simp only [typedFs,Bool.and_eq_true] at ht
   cases j with
   | zero => simp at hj;subst hj;exact ⟨t,h.1,ht.1⟩
   | succ j => exact fields_plain ts cs h.2 ht.2 j f (by simpa using hj)
theorem ORep.plain {t : TypeId} {o : OV} {u : Value} {m : Option Nat} {β : Nat → Option Nat} (hp : ovPlain P t o = true) (ht : o.typed P t = true) (h : ORep w O o u m β) : ORep w O' o u m β := by
 cases h with
 | flat f u b h => exact .flat f u _ (h.plain hp ht)
 | agg cs us β hl hk h =>
   refine .agg cs us β hl hk ⟨fun j f hj => ?_,h.none_⟩
   obtain ⟨ct,h1,h2⟩:=fields_plain _ _ hp ht j f hj
   obtain ⟨z,z1,z2⟩:=h.rep j f hj
   exact ⟨z,z1,z2.plain h1 h2⟩
 | tup => simp [ovPlain] at hp
 | tn => simp [ovPlain] at hp
 | box => simp [ovPlain] at hp
 | entsE => simp [ovPlain] at hp
 | ents => simp [ovPlain] at hp
 | nestE A => exact .nestE A
 | nest cs b c cur e fr β hb hth hl hc hk hg h =>
   obtain ⟨et,he⟩:=Option.isSome_iff_exists.1 (show (nestElem P t).isSome = true from hp)
   refine .nest cs b c cur e fr β hb hth hl hc hk hg ⟨fun j f hj => ?_,h.none_⟩
   obtain ⟨h1,h2⟩:=nest_plain he ht hj
   obtain ⟨z,z1,z2⟩:=h.rep j f hj
   exact ⟨z,z1,z2.plain h1 h2⟩
theorem mkF_spec {t : TypeId} {own : Bool} {f : FV} (h : okF P t own f = true) : (∃ v,f = .val v ∧ mkF P t own f = f ∧ hasT P t v = true) ∨ ∃ sh xs sp,f = .own sh xs sp ∧ mkF P t own f = .own sh xs [] ∧ okRow P t xs [] = true:=by
 unfold okF at h
 split at h
 · rename_i sh xs sp
   simp only [Bool.and_eq_true] at h
   right
   refine ⟨sh,xs,sp,rfl,?_,h.2⟩
   simp [mkF,FV.xs,shEq_eq h.1]
 · rename_i v
   left
   exact ⟨v,rfl,by simp [mkF,FV.pv,etaT_eq h],h⟩
 · cases h
theorem FRep.noSpare {sh : Option Nat} {xs sp : List PV} {u : Value} {m : Option Nat} (h : FRep w O (.own sh xs sp) u m) : FRep w O (.own sh xs []) u m:=by
 cases h with
 | ownE _ A => exact .ownE sh A
 | own _ _ _ b c cur e fr us h => exact .own sh xs [] b c cur e fr us { heap:=h.heap,thaw:=h.thaw,size:=h.size,len:=h.len,fits:=h.fits,cell:=h.cell,at_:=h.at_,rep:=h.rep,spare:=fun j y hj => by simp at hj,capL:=h.capL,spL:=by simpa using h.len }
theorem mkF_rep {t : TypeId} {own : Bool} {f : FV} {u : Value} {m : Option Nat} (ho : okF P t own f = true) (h : FRep w O f u m) : FRep w O (mkF P t own f) u m:=by
 rcases mkF_spec ho with ⟨v,rfl,he,_⟩ | ⟨sh,xs,sp,rfl,he,_⟩
 · rw [he];exact h
 · rw [he];exact h.noSpare
theorem mkF_typed {t : TypeId} {own : Bool} {f : FV} (ho : okF P t own f = true) : (mkF P t own f).typed P t = true:=by
 rcases mkF_spec ho with ⟨v,rfl,he,hv⟩ | ⟨sh,xs,sp,rfl,he,hv⟩
 · rw [he];exact hv
 · rw [he];exact hv
theorem mkF_ok {t : TypeId} {own : Bool} {f : FV} (ho : okF P t own f = true) : (f.cellOk → (mkF P t own f).cellOk) ∧ (mkF P t own f).whole = true:=by
 rcases mkF_spec ho with ⟨v,rfl,he,hv⟩ | ⟨sh,xs,sp,rfl,he,hv⟩
 · rw [he];exact ⟨id,rfl⟩
 · rw [he];exact ⟨fun _ => trivial,rfl⟩
theorem mkFs_spec : ∀ (ts : List TypeId) (l : List Bool) (fs : List FV),okFs P ts l fs = true → (mkFs P ts l fs).length = fs.length ∧ typedFs P ts (mkFs P ts l fs) = true ∧
 ∀ (j : Nat) (f' : FV),(mkFs P ts l fs)[j]? = some f' → ∃ t b f,fs[j]? = some f ∧ f' = mkF P t b f ∧ okF P t b f = true
 | [],[],[],_ => ⟨rfl,rfl,fun j f' hj => by simp [mkFs] at hj⟩
 | [],[],_ :: _,h => by simp [okFs] at h
 | [],_ :: _,_,h => by simp [okFs] at h
 | _ :: _,[],_,h => by simp [okFs] at h
 | _ :: _,_ :: _,[],h => by simp [okFs] at h
 | t :: ts,b :: bs,f :: fs,h => by
   simp only [okFs,Bool.and_eq_true] at h
   obtain ⟨h1,h2,h3⟩:=mkFs_spec ts bs fs h.2
   refine ⟨by simp [mkFs,h1],by simp [mkFs,typedFs,mkF_typed h.1,h2],fun j f' hj => ?_⟩
   cases j with
   | zero => simp [mkFs] at hj;exact ⟨t,b,f,rfl,hj.symm,h.1⟩
   | succ j => exact h3 j f' (by simpa [mkFs] using hj)
theorem mkO_rep {t : TypeId} {k : RK} {o : OV} {u : Value} {m : Option Nat} {β : Nat → Option Nat} (ho : okO P t k o = true) (h : ORep w O o u m β) : ORep w O (mkO P t k o) u m β := by
 unfold okO at ho
 split at ho
 · cases h with | flat f u b h => exact .flat _ _ _ (mkF_rep ho h)
 · cases h with | flat f u b h => exact .flat _ _ _ (mkF_rep ho h)
 · rename_i sh xs sp
   simp only [Bool.and_eq_true] at ho
   cases h with
   | flat f u b h =>
     simp only [mkO,OV.fv,FV.xs,FV.sp,shEq_eq ho.1]
     exact .flat _ _ _ h
 · exact h
 · rename_i l cs
   obtain ⟨h1,h2,h3⟩:=mkFs_spec _ _ _ ho
   refine ORep.recell h h1 (fun j f' hj hok hk => ?_) (fun j f f' z hj hj' hz => ?_) (fun e => by rcases e with e | e <;> cases e) h.none_
   · obtain ⟨t',b,f,hf,rfl,hok'⟩:=h3 j f' hj
     exact (mkF_ok hok').1 (hok f hf hk)
   · obtain ⟨t',b,f2,hf,rfl,hok'⟩:=h3 j f' hj'
     rw [hj] at hf
     cases hf
     exact mkF_rep hok' hz
 · rename_i l cs
   obtain ⟨h1,h2,h3⟩:=mkFs_spec _ _ _ ho
   refine ORep.recell h h1 (fun j f' hj hok hk => ?_) (fun j f f' z hj hj' hz => ?_) (fun e => by rcases e with e | e <;> cases e) h.none_
   · obtain ⟨t',b,f,hf,rfl,hok'⟩:=h3 j f' hj
     exact (mkF_ok hok').1 (hok f hf hk)
   · obtain ⟨t',b,f2,hf,rfl,hok'⟩:=h3 j f' hj'
     rw [hj] at hf
     cases hf
     exact mkF_rep hok' hz
 · exact h
 · cases ho
theorem mkO_typed {t : TypeId} {k : RK} {o : OV} (ho : okO P t k o = true) : (mkO P t k o).typed P t = true:=by
 unfold okO at ho
 split at ho
 · exact mkF_typed ho
 · exact mkF_typed ho
 · rename_i sh xs sp
   simp only [Bool.and_eq_true] at ho
   exact ho.2
 · exact ho
 · exact (mkFs_spec _ _ _ ho).2.1
 · rfl
 · rfl
 · cases ho
theorem mkO_whole {t : TypeId} {k : RK} {o : OV} (ho : okO P t k o = true) : ∀ f,mkO P t k o = .flat f → f.whole = true:=by
 intro f hf
 unfold okO at ho
 split at ho
 · simp only [mkO,OV.fv] at hf;cases hf;exact (mkF_ok ho).2
 · simp only [mkO,OV.fv] at hf;cases hf;exact (mkF_ok ho).2
 · simp only [mkO] at hf;cases hf;rfl
 · simp [mkO] at hf
 · simp [mkO] at hf
 · simp [mkO] at hf
 · simp [mkO] at hf
 · cases ho
end
end Go.Ev

namespace Go.Ev
section
variable {P : Program} {w : World} {Oc : Nat → Prop} {st : Slots} {tm : Nat → Value} {blk : Blk}
def modeAt (ms : List Md) (i : Nat) : Md:=(ms[i]?).getD .ro
theorem modeAt_zero (ms : List Md) : modeAt ms 0 = ms.headD .ro:=by cases ms <;> rfl
theorem modeAt_succ (ms : List Md) (i : Nat) : modeAt ms (i + 1) = modeAt ms.tail i:=by cases ms <;> rfl
def prep (plain : Bool) (m : Md) (a : Arg) : Option (List Edit):=match m with
 | .ro => match plain with
   | true => some []
   | false => a.freeze
 | _ => a.take
def preps (plain : Bool) : List Md → List Arg → Option (List Edit)
 | _,[] => some []
 | ms,a :: r => match prep plain (ms.headD .ro) a,preps plain ms.tail r with
   | some e,some es => some (e ++ es)
   | _,_ => none
theorem preps_get {plain : Bool} : ∀ {as : List Arg} {ms : List Md} {es : List Edit},preps plain ms as = some es → ∀ (i : Nat) (b : Arg),as[i]? = some b → ∃ ei,prep plain (modeAt ms i) b = some ei ∧ ∀ e ∈ ei,e ∈ es
 | [],_,_,_,i,b,hb => by simp at hb
 | a :: as,ms,es,h,i,b,hb => by
   simp only [preps] at h
   split at h
   · rename_i e1 e2 h1 h2
     cases h
     cases i with
     | zero => simp at hb;subst hb;exact ⟨e1,by rw [modeAt_zero];exact h1,fun e he => by simp [he]⟩
     | succ i =>
       obtain ⟨ei,g1,g2⟩:=preps_get h2 i b (by simpa using hb)
       exact ⟨ei,by rw [modeAt_succ];exact g1,fun e he => by simp [g2 e he]⟩
   · cases h
theorem take_on {a : Arg} {o : OV} {es : List Edit} (ho : a.ov = some o) (ht : a.take = some es) {s : Nat} (hs : a.sv.root = some s) : ∃ e,es = [e] ∧ e.s = s:=by
 obtain ⟨sv,rt⟩:=a
 cases sv with
 | home o => simp [SV.root] at hs
 | ref s' c =>
   have hss : s' = s:=Option.some.inj hs
   subst hss
   exact take_one rfl ht
 | _ => simp [Arg.ov] at ho
theorem argOV_spec {m : Md} {a : Arg} {o : OV} (h : argOV m a = some o) : (m = .ro ∧ ∃ v,a.pv = some v ∧ o = .val v) ∨ (m ≠ .ro ∧ a.ov = some o):=by
 unfold argOV at h
 split at h
 · left
   split at h
   · rename_i v hv;cases h;exact ⟨rfl,v,hv,rfl⟩
   · cases h
 · rename_i hne
   right
   refine ⟨fun e => hne e,?_⟩
   split at h
   · rename_i ho;cases h;exact ho
   · rename_i ho;cases h;exact ho
   · cases h
theorem apart_spec {m : Md} {s : Option Nat} : ∀ {ms : List Md} {as : List Arg},apartFrom m s ms as = true → ∀ (i : Nat) (b : Arg),as[i]? = some b → ∀ x y,s = some x → b.rootSlot = some y → x ≠ y ∨ (m.isRo = true ∧ (modeAt ms i).isRo = true)
 | _,[],_,i,b,hb,_,_,_,_ => by simp at hb
 | ms,a :: r,h,i,b,hb,x,y,hx,hy => by
   simp only [apartFrom,Bool.and_eq_true] at h
   cases i with
   | zero =>
     simp at hb
     subst hb
     rw [hx,hy] at h
     dsimp only at h
     by_cases he : x = y
     · right
       subst he
       have:=h.1
       simp only [Nat.beq_refl,Bool.not_true,Bool.false_or,Bool.and_eq_true] at this
       rw [modeAt_zero]
       exact this
     · exact .inl he
   | succ i =>
     rw [modeAt_succ]
     exact apart_spec h.2 i b (by simpa using hb) x y hx hy
theorem ArgRep.rootSlot {O : Nat → Prop} {a : Arg} {u : Value} (ha : ArgRep w O st tm a u) : a.rootSlot = a.sv.root:=by
 unfold Arg.rootSlot
 cases hr : a.rt with
 | none =>
   cases hs : a.sv.root with
   | none => rfl
   | some s => obtain ⟨o,ho⟩:=ha.some_ s hs;rw [hr] at ho;cases ho
 | some p =>
   obtain ⟨s,o⟩:=p
   exact (ha.root s o hr).2.symm
theorem isRo_ro {m : Md} (h : m.isRo = true) : m = .ro:=by cases m <;> simp [Md.isRo] at h;rfl
theorem owns_root {a : Arg} {k : Nat} (h : a.owns blk k) : ∃ s c,a.sv.root = some s ∧ blk s c = some k:=by
 unfold Arg.owns at h
 split at h
 · rename_i s c hsv
   cases c with
   | none => obtain ⟨c,hc⟩:=h;exact ⟨s,c,by rw [hsv];rfl,hc⟩
   | some j => exact ⟨s,some j,by rw [hsv];rfl,h⟩
 · rename_i s c _ _ hsv
   cases c with
   | none => obtain ⟨c,hc⟩:=h;exact ⟨s,c,by rw [hsv];rfl,hc⟩
   | some j => exact ⟨s,some j,by rw [hsv];rfl,h⟩
 · rename_i s j n hsv
   obtain ⟨q,_,_,hq⟩:=h
   exact ⟨s,some q,by rw [hsv];rfl,hq⟩
 · exact h.elim
def consBlk (pb : Option Nat → Option Nat) (ab : Blk) : Blk:=fun i => match i with
 | 0 => pb
 | i + 1 => ab i
def consO (o : Nat → Prop) (Oi : Nat → Nat → Prop) : Nat → Nat → Prop:=fun i => match i with
 | 0 => o
 | i + 1 => Oi i
theorem consBlk_has {pb : Option Nat → Option Nat} {ab : Blk} (k : Nat) : (consBlk pb ab).has k ↔ (∃ c,pb c = some k) ∨ ab.has k:=by
 constructor
 · rintro ⟨i,c,h⟩
   cases i with
   | zero => exact .inl ⟨c,h⟩
   | succ i => exact .inr ⟨i,c,h⟩
 · rintro (⟨c,h⟩ | ⟨i,c,h⟩)
   · exact ⟨0,c,h⟩
   · exact ⟨i + 1,c,h⟩
structure Prepared (w : World) (Oc : Nat → Prop) (st' : Slots) (tm : Nat → Value) (blk blk1 ab : Blk) (Oi : Nat → Nat → Prop) (plain : Bool) (ms : List Md) (as : List Arg) (os : List OV) (us : List Value) : Prop where
 frame : SRel w (fun k => Oc k ∨ ab.has k) st' tm blk1
 sub : ∀ t c k,blk1 t c = some k → blk t c = some k
 from_ : ∀ i c k,ab i c = some k → (modeAt ms i).isRo = false ∧ ∃ a s c',as[i]? = some a ∧ a.sv.root = some s ∧ blk s c' = some k
 inj : ∀ i c i' c' k,ab i c = some k → ab i' c' = some k → i = i' ∧ c = c'
 rep : ∀ (i : Nat) (o : OV) (u : Value),os[i]? = some o → us[i]? = some u → ORep w (Oi i) o u (ab i none) (fun j => ab i (some j))
 has : ∀ i k,ab.has k → Oi i k
 oc : ∀ i k,Oc k → Oi i k
 loud : plain = false → ∀ i k,blk1.off Oc k → Oi i k
 end_ : ∀ i,as.length ≤ i → ∀ c,ab i c = none
theorem preps_rep (plain : Bool) : ∀ (as : List Arg) (us : List Value) (os : List OV) (ms : List Md) (st : Slots) (blk : Blk) (Oc : Nat → Prop) (pes : List Edit),SRel w Oc st tm blk → ArgsRep w (blk.off Oc) st tm as us →
 argOVs ms as = some os → preps plain ms as = some pes → onceEach pes = true → argsApart ms as = true → ∃ blk1 ab Oi,Prepared w Oc (edits pes st) tm blk blk1 ab Oi plain ms as os us
 | [],us,os,ms,st,blk,Oc,pes,h,ha,ho,hp,_,_ => by
   cases ha
   simp only [argOVs,Option.some.injEq] at ho
   simp only [preps,Option.some.injEq] at hp
   subst ho;subst hp
   refine ⟨blk,fun _ _ => none,fun _ _ => True,⟨h.world (Nat.le_refl _) (fun _ _ _ => rfl) (fun k _ q => ?_),fun _ _ _ q => q,fun i c k q => (by cases q),fun i c i' c' k q => (by cases q),fun i o u q => (by simp at q),fun _ _ _ => trivial,fun _ _ _ => trivial,fun _ _ _ _ => trivial,fun _ _ _ => rfl⟩⟩
   rcases q with q | ⟨_,_,q⟩
   · exact q
   · cases q
 | a :: as,us,os,ms,st,blk,Oc,pes,h,ha,ho,hp,hon,hap => by
   cases ha with
   | cons _ u _ us ha har =>
   simp only [argOVs] at ho
   split at ho
   case h_2 => cases ho
   rename_i o os' ho1 ho2
   cases ho
   simp only [preps] at hp
   split at hp
   case h_2 => cases hp
   rename_i e1 e2 he1 he2
   cases hp
   obtain ⟨on1,on2,on3⟩:=onceEach_append hon
   simp only [argsApart,Bool.and_eq_true] at hap
   obtain ⟨hap1,hap2⟩:=hap
   rw [ha.rootSlot] at hap2
   have tailRep : ∀ (i : Nat) (b : Arg),as[i]? = some b → ∃ v,us[i]? = some v ∧ ArgRep w (blk.off Oc) st tm b v:=fun i b hb => har.get.2 i b hb
   have rest : ∀ {O' : Nat → Prop} {es : List Edit},(∀ k,O' k → blk.off Oc k) → (∀ (i : Nat) (b : Arg),as[i]? = some b → ∀ s,b.sv.root = some s → notOn s es = true) → ∀ {as' : List Arg} {us' : List Value},ArgsRep w (blk.off Oc) st tm as' us' → (∀ b ∈ as',∃ i : Nat,as[i]? = some b) → ArgsRep w O' (edits es st) tm as' us':=by
    intro O' es hO hn as' us' hr
    induction hr with
    | nil => exact fun _ => .nil
    | cons b v bs vs hb hr ih =>
      intro hmem
      obtain ⟨i,hi⟩:=hmem b (by simp)
      exact .cons _ _ _ _ (hb.edits hO fun s hs => hn i b hi s hs) (ih fun c hc => hmem c (by simp [hc]))
   have hmem : ∀ b ∈ as,∃ i : Nat,as[i]? = some b:=fun b hb => by
    obtain ⟨i,hi,rfl⟩:=List.mem_iff_getElem.1 hb
    exact ⟨i,List.getElem?_eq_getElem hi⟩
   rcases argOV_spec ho1 with ⟨hro,v,hv,rfl⟩ | ⟨hnro,hov⟩
   · rw [hro] at he1 hap2
     cases plain with
     | true =>
       simp only [prep,Option.some.injEq] at he1
       subst he1
       obtain ⟨blk1,ab,Oi,H⟩:=preps_rep true as us os' ms.tail st blk Oc e2 h har ho2 he2 on2 hap1
       have hlent : ∀ k,Oc k → lent (blk.off Oc) blk a k:=fun k hk => ⟨.inr hk,fun ow => by
        obtain ⟨s,c,_,q⟩:=owns_root ow
        exact (h.out _ _ _ q).1 hk⟩
       refine ⟨blk1,consBlk (fun _ => none) ab,consO (lent (blk.off Oc) blk a) Oi,⟨H.frame.world (Nat.le_refl _) (fun _ _ _ => rfl) (fun k _ q => ?_),H.sub,fun i c k q => ?_,fun i c i' c' k q q' => ?_,fun i o u q q' => ?_,fun i k q => ?_,fun i k q => ?_,(fun q => by cases q),fun i hi c => ?_⟩⟩
       · rcases q with q | q
         · exact .inl q
         · rcases (consBlk_has k).1 q with ⟨_,q⟩ | q
           · cases q
           · exact .inr q
       · cases i with
         | zero => cases q
         | succ i =>
           obtain ⟨g1,b,s,c',g2,g3,g4⟩:=H.from_ i c k q
           exact ⟨by rw [modeAt_succ];exact g1,b,s,c',g2,g3,g4⟩
       · cases i with
         | zero => cases q
         | succ i =>
           cases i' with
           | zero => cases q'
           | succ i' =>
             obtain ⟨g1,g2⟩:=H.inj _ _ _ _ _ q q'
             exact ⟨by rw [g1],g2⟩
       · cases i with
         | zero =>
           simp at q q'
           subst q;subst q'
           exact .flat _ _ _ (.val _ _ (arg_pv h ha hv))
         | succ i => exact H.rep i o u (by simpa using q) (by simpa using q')
       · rcases (consBlk_has k).1 q with ⟨_,q⟩ | q
         · cases q
         · cases i with
           | succ i => exact H.has i k q
           | zero =>
             obtain ⟨i,c,q⟩:=q
             obtain ⟨g1,b,s,c',g2,g3,g4⟩:=H.from_ i c k q
             refine ⟨.inl ⟨s,c',g4⟩,fun ow => ?_⟩
             obtain ⟨s2,c2,r1,r2⟩:=owns_root ow
             obtain ⟨bv,_,hb⟩:=tailRep i b g2
             have hss : s2 = s:=(h.inj _ _ _ _ _ r2 g4).1
             rcases apart_spec hap2 i b g2 s2 s r1 (by rw [hb.rootSlot];exact g3) with x | ⟨_,x⟩
             · exact x hss
             · rw [g1] at x;cases x
       · cases i with
         | zero => exact hlent k q
         | succ i => exact H.oc i k q
       · cases i with
         | zero => rfl
         | succ i => exact H.end_ i (by simpa using hi) c
     | false =>
       simp only [prep] at he1
       obtain ⟨blk',a1,a2,a3,a4,a5⟩:=freeze_arg h (fun s o hrt => ha.root s o hrt) hv he1
       have hn : ∀ (i : Nat) (b : Arg),as[i]? = some b → ∀ s,b.sv.root = some s → notOn s e1 = true:=by
        intro i b hb s hs
        rw [notOn_iff]
        intro hm
        obtain ⟨e,he,rfl⟩:=List.mem_map.1 hm
        have har : a.sv.root = some e.s:=a5 e he
        obtain ⟨bv,_,hbr⟩:=tailRep i b hb
        rcases apart_spec hap2 i b hb e.s e.s har (by rw [hbr.rootSlot];exact hs) with x | ⟨_,x⟩
        · exact x rfl
        · -- both are only read: both are frozen
          have : ∃ f ∈ e2,f.s = e.s:=by
           obtain ⟨ei,g1,g2⟩:=preps_get he2 i b hb
           rw [isRo_ro x] at g1
           obtain ⟨f,hf,hfs⟩:=freeze_on g1 hs
           exact ⟨f,g2 f hf,hfs⟩
          obtain ⟨f,hf,hfs⟩:=this
          exact on3 f hf (List.mem_map.2 ⟨e,he,hfs.symm⟩)
       have hsubO : ∀ k,blk'.off Oc k → blk.off Oc k:=by
        rintro k (⟨t,c,q⟩ | q)
        · exact .inl ⟨t,c,a2 _ _ _ q⟩
        · exact .inr q
       obtain ⟨blk1,ab,Oi,H⟩:=preps_rep false as us os' ms.tail (edits e1 st) blk' Oc e2 a1 (rest hsubO hn har hmem) ho2 he2 on2 hap1
       have hOc : ∀ k,Oc k → lent (blk.off Oc) blk a k:=fun k hk => ⟨.inr hk,fun ow => by
        obtain ⟨s,c,_,q⟩:=owns_root ow
        exact (h.out _ _ _ q).1 hk⟩
       have hbl : ∀ t c k,blk' t c = some k → lent (blk.off Oc) blk a k:=fun t c k q => ⟨.inl ⟨t,c,a2 _ _ _ q⟩,a3 t c k q⟩
       refine ⟨blk1,consBlk (fun _ => none) ab,consO (lent (blk.off Oc) blk a) Oi,⟨?_,fun t c k q => a2 _ _ _ (H.sub _ _ _ q),fun i c k q => ?_,fun i c i' c' k q q' => ?_,fun i o u q q' => ?_,fun i k q => ?_,fun i k q => ?_,fun hp i k q => ?_,fun i hi c => ?_⟩⟩
       · rw [edits_append]
         refine H.frame.world (Nat.le_refl _) (fun _ _ _ => rfl) (fun k _ q => ?_)
         rcases q with q | q
         · exact .inl q
         · rcases (consBlk_has k).1 q with ⟨_,q⟩ | q
           · cases q
           · exact .inr q
       · cases i with
         | zero => cases q
         | succ i =>
           obtain ⟨g1,b,s,c',g2,g3,g4⟩:=H.from_ i c k q
           exact ⟨by rw [modeAt_succ];exact g1,b,s,c',g2,g3,a2 _ _ _ g4⟩
       · cases i with
         | zero => cases q
         | succ i =>
           cases i' with
           | zero => cases q'
           | succ i' =>
             obtain ⟨g1,g2⟩:=H.inj _ _ _ _ _ q q'
             exact ⟨by rw [g1],g2⟩
       · cases i with
         | zero =>
           simp at q q'
           subst q;subst q'
           exact .flat _ _ _ (.val _ _ (arg_pv h ha hv))
         | succ i => exact H.rep i o u (by simpa using q) (by simpa using q')
       · rcases (consBlk_has k).1 q with ⟨_,q⟩ | q
         · cases q
         · cases i with
           | succ i => exact H.has i k q
           | zero =>
             obtain ⟨i,c,q⟩:=q
             obtain ⟨g1,b,s,c',g2,g3,g4⟩:=H.from_ i c k q
             exact hbl _ _ _ g4
       · cases i with
         | zero => exact hOc k q
         | succ i => exact H.oc i k q
       · cases i with
         | succ i => exact H.loud hp i k q
         | zero =>
           rcases q with ⟨t,c,q⟩ | q
           · exact hbl _ _ _ (H.sub _ _ _ q)
           · exact hOc k q
       · cases i with
         | zero => rfl
         | succ i => exact H.end_ i (by simpa using hi) c
   · have he1' : a.take = some e1:=by
      unfold prep at he1
      split at he1
      · rename_i hm;exact absurd hm hnro
      · exact he1
     obtain ⟨blk',pb,hpd,hsub,hfrom⟩:=take_rep' h ha hov he1'
     have hmr : (ms.headD .ro).isRo = false:=by
      cases hm : ms.headD .ro with
      | ro => exact absurd hm hnro
      | io k => rfl
      | tk => rfl
     have hn : ∀ (i : Nat) (b : Arg),as[i]? = some b → ∀ s,b.sv.root = some s → notOn s e1 = true:=by
      intro i b hb s hs
      rw [notOn_iff]
      intro hm
      obtain ⟨e,he,rfl⟩:=List.mem_map.1 hm
      have har : a.sv.root = some e.s:=by
       cases e1 with
       | nil => cases he
       | cons f fs =>
         have hr:=take_root he1'
         obtain ⟨e',h1,h2⟩:=take_on hov he1' hr
         rw [h1] at he
         simp at he
         subst he
         rw [hr,h2]
      obtain ⟨bv,_,hbr⟩:=tailRep i b hb
      rcases apart_spec hap2 i b hb e.s e.s har (by rw [hbr.rootSlot];exact hs) with x | ⟨x,_⟩
      · exact x rfl
      · rw [hmr] at x;cases x
     have hsubO : ∀ k,(blk'.off fun k => Oc k ∨ ∃ c,pb c = some k) k → blk.off Oc k:=by
      rintro k (⟨t,c,q⟩ | q | ⟨c,q⟩)
      · exact .inl ⟨t,c,hsub _ _ _ q⟩
      · exact .inr q
      · obtain ⟨s,c',_,q⟩:=hfrom c k q
        exact .inl ⟨s,c',q⟩
     obtain ⟨blk1,ab,Oi,H⟩:=preps_rep plain as us os' ms.tail (edits e1 st) blk' (fun k => Oc k ∨ ∃ c,pb c = some k) e2 hpd.base (rest hsubO hn har hmem) ho2 he2 on2 hap1
     refine ⟨blk1,consBlk pb ab,consO (blk'.off fun k => Oc k ∨ ∃ c,pb c = some k) Oi,⟨?_,fun t c k q => hsub _ _ _ (H.sub _ _ _ q),fun i c k q => ?_,fun i c i' c' k q q' => ?_,fun i o u q q' => ?_,fun i k q => ?_,fun i k q => ?_,fun hp i k q => ?_,fun i hi c => ?_⟩⟩
     · rw [edits_append]
       refine H.frame.world (Nat.le_refl _) (fun _ _ _ => rfl) (fun k _ q => ?_)
       rcases q with q | q
       · exact .inl (.inl q)
       · rcases (consBlk_has k).1 q with q | q
         · exact .inl (.inr q)
         · exact .inr q
     · cases i with
       | zero =>
         obtain ⟨s,c',g3,g4⟩:=hfrom c k q
         exact ⟨by rw [modeAt_zero];exact hmr,a,s,c',rfl,g3,g4⟩
       | succ i =>
         obtain ⟨g1,b,s,c',g2,g3,g4⟩:=H.from_ i c k q
         exact ⟨by rw [modeAt_succ];exact g1,b,s,c',g2,g3,hsub _ _ _ g4⟩
     · have hno : ∀ c i c' k,pb c = some k → ab i c' = some k → False:=by
        intro c i c' k h1 h2
        obtain ⟨_,b,s,c2,_,_,g4⟩:=H.from_ i c' k h2
        exact (hpd.base.out _ _ _ g4).1 (.inr ⟨c,h1⟩)
       cases i with
       | zero =>
         cases i' with
         | zero => exact ⟨rfl,hpd.inj _ _ _ q q'⟩
         | succ i' => exact (hno _ _ _ _ q q').elim
       | succ i =>
         cases i' with
         | zero => exact (hno _ _ _ _ q' q).elim
         | succ i' =>
           obtain ⟨g1,g2⟩:=H.inj _ _ _ _ _ q q'
           exact ⟨by rw [g1],g2⟩
     · cases i with
       | zero =>
         simp at q q'
         subst q;subst q'
         exact hpd.rep
       | succ i => exact H.rep i o u (by simpa using q) (by simpa using q')
     · cases i with
       | zero =>
         rcases (consBlk_has k).1 q with q | ⟨i,c,q⟩
         · exact .inr (.inr q)
         · obtain ⟨g1,b,s,c',g2,g3,g4⟩:=H.from_ i c k q
           exact .inl ⟨s,c',g4⟩
       | succ i =>
         rcases (consBlk_has k).1 q with q | q
         · exact H.oc i k (.inr q)
         · exact H.has i k q
     · cases i with
       | zero => exact .inr (.inl q)
       | succ i => exact H.oc i k (.inl q)
     · cases i with
       | zero =>
         rcases q with ⟨t,c,q⟩ | q
         · exact .inl ⟨t,c,H.sub _ _ _ q⟩
         · exact .inr (.inl q)
       | succ i =>
         refine H.loud hp i k ?_
         rcases q with q | q
         · exact .inl q
         · exact .inr (.inl q)
     · cases i with
       | zero => simp at hi
       | succ i => exact H.end_ i (by simpa using hi) c
end
end Go.Ev

namespace Go.Ev
section
variable {P : Program} {w : World} {Oc : Nat → Prop} {st : Slots} {tm : Nat → Value} {blk : Blk}
theorem SRel.fill {Oc' : Nat → Prop} (h : SRel w Oc st tm blk) {s j : Nat} {k : CK} {cs : List FV} {g : FV} {z : Value} {m : Option Nat} (hg : st.get s = .home (.cont k cs)) (hj : j < cs.length) (hz : PathV w (tm s) (.cont k cs) (some j) z)
 (hf : FRep w (Blk.off (updN blk s fun c => if c = some j then m else blk s c) Oc') g z m) (hok : g.cellOk) (hwh : g.whole = true) (hO : ∀ x,Oc' x → Oc x) (hm : ∀ x,m = some x → Oc x ∧ ¬ Oc' x ∧ x < w.heap.size) :
 SRel w Oc' ((Edit.mk s (.home (.cont k (cs.set j g))) (.cells j 1)).on st) tm (updN blk s fun c => if c = some j then m else blk s c):=by
 have hrep:=h.rep s
 rw [hg] at hrep
 let b' : Option Nat → Option Nat:=fun c => if c = some j then m else blk s c
 have hb : ∀ c x,b' c = some x → (c = some j ∧ m = some x) ∨ (c ≠ some j ∧ blk s c = some x):=by
  intro c x hx
  simp only [b'] at hx
  split at hx
  · rename_i hc;exact .inl ⟨hc,hx⟩
  · rename_i hc;exact .inr ⟨hc,hx⟩
 have hmo : ∀ x,m = some x → ∀ t c,blk t c ≠ some x:=fun x hx t c hh => (h.out _ _ _ hh).1 (hm x hx).1
 have hoff : ∀ x,x < w.heap.size → ¬ blk.off Oc x → w.heap[x]? = w.heap[x]? ∧ ¬ Blk.off (updN blk s b') Oc' x:=by
  intro x hx hno
  refine ⟨rfl,?_⟩
  rintro (⟨t,c,hh⟩ | hh)
  · by_cases ht : t = s
    · subst ht
      rw [updN_same] at hh
      rcases hb c x hh with ⟨_,q⟩ | ⟨_,q⟩
      · exact hno (.inr (hm x q).1)
      · exact hno (.inl ⟨t,c,q⟩)
    · rw [updN_ne _ _ ht] at hh;exact hno (.inl ⟨t,c,hh⟩)
  · exact hno (.inr (hO x hh))
 have key:=SRel.edit (w':=w) (Oc':=Oc') h ⟨s,.home (.cont k (cs.set j g)),.cells j 1⟩ (tm s) b' (Nat.le_refl _) (fun _ _ _ _ => rfl) (fun x _ hh => .inl (hO x hh))
  (fun c x hx => by
    rcases hb c x hx with ⟨_,q⟩ | ⟨_,q⟩
    · exact ⟨.inr (.inl (hm x q).1),(hm x q).2⟩
    · exact ⟨.inl ⟨c,q⟩,fun hh => (h.out _ _ _ q).1 (hO x hh),(h.out _ _ _ q).2⟩)
  (fun c c' x h1 h2 => by
    rcases hb c x h1 with ⟨e1,q1⟩ | ⟨e1,q1⟩ <;> rcases hb c' x h2 with ⟨e2,q2⟩ | ⟨e2,q2⟩
    · rw [e1,e2]
    · exact absurd q2 (hmo x q1 _ _)
    · exact absurd q1 (hmo x q2 _ _)
    · exact (h.inj _ _ _ _ _ q1 q2).2)
  (by
    have hnone : b' none = blk s none:=rfl
    have hbj : b' (some j) = m:=by simp [b']
    have hbne : ∀ q,q ≠ j → b' (some q) = blk s (some q):=fun q hq => by simp [b',hq]
    show ORep _ _ _ _ _ _
    rw [hnone]
    have cells : ∀ (get : Nat → Option Value),(∀ q,get q = some z → True) → Cells w (blk.off Oc) cs get (fun j => blk s (some j)) → (∀ u,get j = some u → u = z) → Cells w (Blk.off (updN blk s b') Oc') (cs.set j g) get (fun j => b' (some j)):=by
     intro get _ H hget
     refine ⟨fun q f hq => ?_,fun q hq => ?_⟩
     · by_cases hqj : q = j
       · subst hqj
         rw [List.getElem?_set_self hj] at hq
         cases hq
         obtain ⟨u,h1,_⟩:=H.rep q cs[q] (by simp [hj])
         rw [hget u h1] at h1
         exact ⟨z,h1,by rw [hbj];exact hf⟩
       · rw [List.getElem?_set_ne (by omega)] at hq
         obtain ⟨u,h1,h2⟩:=H.rep q f hq
         rw [hbne q hqj]
         exact ⟨u,h1,h2.move ⟨hoff,fun _ _ => rfl⟩⟩
     · rw [List.length_set] at hq
       rw [hbne q (by omega)]
       exact H.none_ q hq
    have ok : (∀ (q : Nat) (f : FV),cs[q]? = some f → f.cellOk) → ∀ (q : Nat) (f : FV),(cs.set j g)[q]? = some f → f.cellOk:=by
     intro H q f hq
     by_cases hqj : q = j
     · subst hqj;rw [List.getElem?_set_self hj] at hq;cases hq;exact hok
     · rw [List.getElem?_set_ne (by omega)] at hq;exact H q f hq
    have wh : (∀ (q : Nat) (f : FV),cs[q]? = some f → f.whole = true) → ∀ (q : Nat) (f : FV),(cs.set j g)[q]? = some f → f.whole = true:=by
     intro H q f hq
     by_cases hqj : q = j
     · subst hqj;rw [List.getElem?_set_self hj] at hq;cases hq;exact hwh
     · rw [List.getElem?_set_ne (by omega)] at hq;exact H q f hq
    have hrep : ORep w (blk.off Oc) (.cont k cs) (tm s) (blk s none) (fun j => blk s (some j)):=hrep
    have hβ : ∃ β,β = fun j => blk s (some j):=⟨_,rfl⟩
    obtain ⟨β,hβ⟩:=hβ
    rw [← hβ] at hrep cells
    generalize hv : tm s = v at hrep hz ⊢
    generalize hmm : blk s none = mm at hrep ⊢
    cases hrep with
    | agg _ us _ hl hk H =>
      refine .agg _ us _ (by simpa using hl) (ok hk) (cells _ (fun _ _ => trivial) H fun u hu => ?_)
      cases hz with | agg _ _ _ _ hz => rw [hu] at hz;exact Option.some.inj hz
    | tup _ us _ hl H =>
      refine .tup _ us _ (by simpa using hl) (cells _ (fun _ _ => trivial) H fun u hu => ?_)
      cases hz with | tup _ _ _ _ hz => rw [hu] at hz;exact Option.some.inj hz
    | box _ b cur e fr _ hb1 ht hl hk H =>
      refine .box _ b cur e fr _ hb1 ht (by simpa using hl) (ok hk) (cells _ (fun _ _ => trivial) H fun u hu => ?_)
      cases hz with | box _ _ _ _ hz => rw [cell_at hb1,hu] at hz;exact Option.some.inj hz
    | entsE A => simp at hj
    | ents _ n b c cur e fr _ hb1 ht hl hn hc hk hw H =>
      refine .ents (cs.set j g) n b c cur e fr _ hb1 ht hl (by simpa using hn) hc (ok hk) (wh hw) (cells _ (fun _ _ => trivial) H fun u hu => ?_)
      cases hz with | ents _ _ _ _ _ _ hz => rw [cell_at hb1,hu] at hz;exact Option.some.inj hz
    | nestE A => simp at hj
    | nest _ b c cur e fr _ hb1 ht hl hc hk hw H =>
      have:=ORep.nest (w:=w) (O:=Blk.off (updN blk s b') Oc') (cs.set j g) b c cur e fr (fun j => b' (some j)) hb1 ht hl (by simpa using hc) (ok hk) (wh hw) (cells _ (fun _ _ => trivial) H fun u hu => by
       cases hz with | nest _ _ _ _ _ _ hz => rw [cell_at hb1,hu] at hz;exact Option.some.inj hz)
      rw [List.length_set] at this
      exact this)
  (fun t ht hroot hv => by
    rw [get_on] at hroot ⊢
    dsimp only at hroot ⊢
    obtain ⟨e1,e2,e3⟩:=cutCells_keeps hroot
    rw [e1]
    refine alias_home (cs':=cs.set j g) hv e2 hg (by rw [get_edit];simp) (updN_same _ _ _) (by simp) (fun c n hc q h1 h2 => ⟨?_,fun _ _ => rfl⟩)
    rw [List.getElem?_set_ne]
    rintro rfl
    exact e3 c n hc ⟨by omega,by omega⟩)
 rwa [updN_self] at key
theorem SRel.fillAll {Oc' : Nat → Prop} {s : Nat} {o : OV} {b : Option Nat → Option Nat} (h : SRel w Oc st tm blk) (hO : ∀ x,Oc' x → Oc x) (hrep : ORep w (Blk.off (updN blk s b) Oc') o (tm s) (b none) (fun j => b (some j)))
 (hinj : ∀ c c' x,b c = some x → b c' = some x → c = c') (hb : ∀ c x,b c = some x → Oc x ∧ ¬ Oc' x ∧ x < w.heap.size) :
 SRel w Oc' ((Edit.mk s (.home o) .all).on st) tm (updN blk s b):=by
 have key:=SRel.edit (w':=w) (Oc':=Oc') h ⟨s,.home o,.all⟩ (tm s) b (Nat.le_refl _) (fun _ _ _ _ => rfl) (fun x _ hh => .inl (hO x hh))
  (fun c x hx => ⟨.inr (.inl (hb c x hx).1),(hb c x hx).2⟩) hinj hrep (fun t ht hroot _ => by rw [get_on] at hroot;exact absurd hroot (cutAll_root _ _))
 rwa [updN_self] at key
theorem setAt_spec {s : Nat} {o : OV} {c : Option Nat} {f : OV} {e : Edit} (h : setAt s o c f = some e) :
 (c = none ∧ e = ⟨s,.home f,.all⟩) ∨ ∃ j k cs g,c = some j ∧ o = .cont k cs ∧ f = .flat g ∧ e = ⟨s,.home (.cont k (cs.set j g)),.cells j 1⟩:=by
 unfold setAt at h
 split at h
 · cases h;exact .inl ⟨rfl,rfl⟩
 · rename_i j
   split at h
   · cases h
   · cases h
   · rename_i k cs g _ _
     cases h;exact .inr ⟨j,_,_,_,rfl,rfl,rfl,rfl⟩
   · cases h
structure Back (ms : List Md) (as : List Arg) (outs : List OV) (i : Nat) (p e : Edit) : Prop where
 ex : ∃ a s c o kd s',as[i]? = some a ∧ a.sv = .ref s c ∧ a.rt = some (s',o) ∧ modeAt ms i = .io kd ∧ (setAt s o c ((outs[i]?).getD (.flat .gone)) = some e ∧ putOk c ((outs[i]?).getD (.flat .gone)) = true) ∧ a.take = some [p] ∧ p.s = e.s ∧ p.cut = e.cut
theorem rootless_take {a : Arg} {o : OV} {es : List Edit} (ho : a.ov = some o) (h : a.take = some es) : Rootless es:=by
 obtain ⟨sv,rt⟩:=a
 cases sv with
 | home o => simp only [Arg.take,Option.some.injEq] at h;subst h;intro e he;cases he
 | ref s c =>
   cases rt with
   | none => cases c <;> simp [Arg.take] at h
   | some p =>
     cases c with
     | none => simp only [Arg.take,Option.some.injEq] at h;subst h;intro e he;simp at he;subst he;rfl
     | some j =>
       simp only [Arg.take] at h
       cases hs : setAt s p.2 (some j) (.flat .gone) with
       | none => rw [hs] at h;cases h
       | some e =>
         rw [hs] at h
         simp only [one,Option.some.injEq] at h
         subst h
         intro e' he'
         simp at he'
         subst he'
         rcases setAt_spec hs with ⟨_,rfl⟩ | ⟨_,_,_,_,_,_,_,rfl⟩ <;> rfl
 | _ => simp [Arg.ov] at ho
theorem rootless_freeze {a : Arg} {es : List Edit} (h : a.freeze = some es) : Rootless es:=by
 obtain ⟨sv,rt⟩:=a
 have key : ∀ (s : Nat) (o : OV) (c : Option Nat) (v : PV),one (setAt s o c (.val v)) = some es → Rootless es:=by
  intro s o c v hh
  cases hs : setAt s o c (.val v) with
  | none => rw [hs] at hh;cases hh
  | some e =>
    rw [hs] at hh
    simp only [one,Option.some.injEq] at hh
    subst hh
    intro e' he'
    simp at he'
    subst he'
    rcases setAt_spec hs with ⟨_,rfl⟩ | ⟨_,_,_,_,_,_,_,rfl⟩ <;> rfl
 cases sv with
 | home o => simp only [Arg.freeze,Option.some.injEq] at h;subst h;intro e he;cases he
 | fadr sh p => simp only [Arg.freeze,Option.some.injEq] at h;subst h;intro e he;cases he
 | ref s c =>
   cases rt with
   | none => simp [Arg.freeze] at h
   | some p =>
     simp only [Arg.freeze] at h
     split at h
     · split at h
       · exact key _ _ _ _ h
       · cases h
     · cases h
 | view s c l u =>
   cases rt with
   | none => simp [Arg.freeze] at h
   | some p =>
     simp only [Arg.freeze] at h
     split at h
     · split at h
       · exact key _ _ _ _ h
       · cases h
     · cases h
 | dead => simp [Arg.freeze] at h
 | adr s j => simp [Arg.freeze] at h
 | adrx s j => simp [Arg.freeze] at h
 | adre s c i off => simp [Arg.freeze] at h
 | rng s j n => simp [Arg.freeze] at h
inductive Backs (ms : List Md) (as : List Arg) (outs : List OV) : List (Nat × Edit × Edit) → Prop
 | nil : Backs ms as outs []
 | cons (i : Nat) (p e : Edit) (l : List (Nat × Edit × Edit)) (h : Back ms as outs i p e) (hr : Backs ms as outs l) (hne : ∀ x ∈ l,x.1 ≠ i) : Backs ms as outs ((i,p,e) :: l)
theorem Back.shift {ms : List Md} {a : Arg} {as : List Arg} {outs : List OV} {i : Nat} {p e : Edit} (h : Back ms.tail as outs.tail i p e) : Back ms (a :: as) outs (i + 1) p e:=by
 obtain ⟨b,s,c,o,kd,s',h1,h2,h3,h4,h5,h6⟩:=h.ex
 refine ⟨b,s,c,o,kd,s',by simpa using h1,h2,h3,by rw [modeAt_succ];exact h4,?_,h6⟩
 have : (outs[i + 1]?) = outs.tail[i]?:=by cases outs <;> simp
 rw [this];exact h5
theorem Backs.shift {ms : List Md} {a : Arg} {as : List Arg} {outs : List OV} {l : List (Nat × Edit × Edit)} (h : Backs ms.tail as outs.tail l) : Backs ms (a :: as) outs (l.map fun x => (x.1 + 1,x.2)):=by
 induction h with
 | nil => exact .nil
 | cons i p e l hb hr hne ih =>
   refine .cons _ _ _ _ hb.shift ih ?_
   intro x hx
   obtain ⟨y,hy,rfl⟩:=List.mem_map.1 hx
   have:=hne y hy
   dsimp only
   omega
theorem argEdits_split {plain : Bool} : ∀ {as : List Arg} {ms : List Md} {os outs : List OV} {es : List Edit},argEdits plain ms as outs = some es → argOVs ms as = some os →
 ∃ pes l,preps plain ms as = some pes ∧ Twofold es pes (l.map (·.2.2)) ∧ Backs ms as outs l ∧ (∀ x ∈ l,x.2.1 ∈ pes) ∧ Rootless es ∧ Rootless pes
 | [],ms,os,outs,es,h,_ => by
   simp only [argEdits,Option.some.injEq] at h
   subst h
   exact ⟨[],[],rfl,.nil,.nil,fun x hx => (by cases hx),fun x hx => (by cases hx),fun x hx => (by cases hx)⟩
 | a :: as,ms,os,outs,es,h,ho => by
   simp only [argEdits] at h
   split at h
   case h_2 => cases h
   rename_i e1 e2 h1 h2
   cases h
   simp only [argOVs] at ho
   split at ho
   case h_2 => cases ho
   rename_i o os' ho1 ho2
   cases ho
   obtain ⟨pes,l,g1,g2,g3,g4,g5,g6⟩:=argEdits_split h2 ho2
   have once : ∀ (x : List Edit),prep plain (ms.headD .ro) a = some x → e1 = x → Rootless x → ∃ pes l,preps plain ms (a :: as) = some pes ∧ Twofold (e1 ++ e2) pes (l.map (·.2.2)) ∧ Backs ms (a :: as) outs l ∧ (∀ x ∈ l,x.2.1 ∈ pes) ∧ Rootless (e1 ++ e2) ∧ Rootless pes:=by
    intro x hx he hr
    subst he
    refine ⟨e1 ++ pes,l.map fun x => (x.1 + 1,x.2),by simp only [preps,hx,g1],?_,g3.shift,fun y hy => ?_,fun y hy => ?_,fun y hy => ?_⟩
    · have : ∀ es : List Edit,Twofold es es []:=by
       intro es
       induction es with
       | nil => exact .nil
       | cons e es ih => exact .once _ _ _ _ ih
      have h3:=(this e1).append g2
      simpa [Function.comp_def] using h3
    · obtain ⟨z,hz,rfl⟩:=List.mem_map.1 hy
      have:=g4 z hz
      simp [this]
    · rcases List.mem_append.1 hy with hy | hy
      · exact hr y hy
      · exact g5 y hy
    · rcases List.mem_append.1 hy with hy | hy
      · exact hr y hy
      · exact g6 y hy
   unfold argEdit at h1
   split at h1
   · rename_i hm
     split at h1
     · simp only [Option.some.injEq] at h1
       exact once [] (by simp only [prep,hm]) h1.symm (fun x hx => by cases hx)
     · exact once e1 (by simp only [prep,hm];exact h1) rfl (rootless_freeze h1)
   · rename_i hm
     rcases argOV_spec ho1 with ⟨hro,_⟩ | ⟨_,hov⟩
     · rw [hm] at hro;cases hro
     · exact once e1 (by simp only [prep,hm];exact h1) rfl (rootless_take hov h1)
   · rename_i kd hm
     split at h1
     case h_2 => cases h1
     rename_i x1 x2 x3 ps s c s' o' ht hsv hrt
     split at h1
     case h_2 => cases h1
     rename_i hpo
     rcases argOV_spec ho1 with ⟨hro,_⟩ | ⟨_,hov⟩
     · rw [hm] at hro;cases hro
     cases hs : setAt s o' c (outs.headD (.flat .gone)) with
     | none => rw [hs] at h1;cases h1
     | some e =>
       rw [hs] at h1
       simp only [one,Option.some.injEq] at h1
       subst h1
       obtain ⟨p,rfl,hps⟩:=take_on hov ht (s:=s) (by rw [hsv];rfl)
       have hrl:=rootless_take hov ht
       have hcut : p.s = e.s ∧ p.cut = e.cut ∧ e.v.root = none:=by
        obtain ⟨sv,rt⟩:=a
        dsimp only at hsv hrt
        subst hsv;subst hrt
        rcases setAt_spec hs with ⟨rfl,rfl⟩ | ⟨j,k,cs,g,rfl,rfl,_,rfl⟩
        · simp only [Arg.take,Option.some.injEq,List.cons.injEq,and_true] at ht
          subst ht;exact ⟨rfl,rfl,rfl⟩
        · simp only [Arg.take] at ht
          cases hs2 : setAt s (.cont k cs) (some j) (.flat .gone) with
          | none => rw [hs2] at ht;cases ht
          | some e2 =>
            rw [hs2] at ht
            simp only [one,Option.some.injEq,List.cons.injEq,and_true] at ht
            subst ht
            rcases setAt_spec hs2 with ⟨q,_⟩ | ⟨j2,k2,cs2,g2,q1,q2,_,rfl⟩
            · cases q
            · cases q1;exact ⟨rfl,rfl,rfl⟩
       refine ⟨[p] ++ pes,(0,p,e) :: l.map fun x => (x.1 + 1,x.2),?_,?_,?_,fun y hy => ?_,fun y hy => ?_,fun y hy => ?_⟩
       · have : prep plain (ms.headD .ro) a = some [p]:=by simp only [prep,hm];exact ht
         simp only [preps,this,g1]
       · have:=Twofold.twice e p e2 pes _ hcut.1 hcut.2.1 g2
         simpa [Function.comp_def] using this
       · refine .cons _ _ _ _ ⟨a,s,c,o',kd,s',rfl,hsv,hrt,by rw [modeAt_zero];exact hm,?_,ht,hcut.1,hcut.2.1⟩ g3.shift ?_
         · cases outs with
           | nil => exact ⟨by simpa using hs,by simpa using hpo⟩
           | cons z zs => exact ⟨by simpa using hs,by simpa using hpo⟩
         · intro x hx
           obtain ⟨y,_,rfl⟩:=List.mem_map.1 hx
           simp
       · rcases List.mem_cons.1 hy with rfl | hy
         · simp
         · obtain ⟨z,hz,rfl⟩:=List.mem_map.1 hy
           have:=g4 z hz
           simp [this]
       · rcases List.mem_append.1 hy with hy | hy
         · simp at hy;subst hy;exact hcut.2.2
         · exact g5 y hy
       · rcases List.mem_append.1 hy with hy | hy
         · exact hrl y hy
         · exact g6 y hy
end
end Go.Ev

namespace Go.Ev
def resultVal (n : Nat) (f : Nat → Value) : Value:=match n with
 | 0 => .tuple #[]
 | 1 => f 0
 | n => .tuple ((List.range n).map f).toArray
structure CallOut (w w' : World) (Oc : Nat → Prop) (ab : Blk) (us : List Value) (rs outs : List OV) (v : Value) : Prop where
 ex : ∃ (N : Nat) (st : Slots) (tm : Nat → Value) (ob : Blk),SRel w' Oc st tm ob ∧ (∀ t c k,ob t c = some k → ab.has k ∨ w.heap.size ≤ k) ∧ us.length ≤ N ∧
  (∀ (i : Nat) (o : OV),outs[i]? = some o → o ≠ .flat .gone → st.get i = .home o ∧ tm i = us.getD i Go.undef ∧ i < us.length) ∧ (∀ (j : Nat) (o : OV),rs[j]? = some o → st.get (N + j) = .home o) ∧ v = resultVal rs.length (fun j => tm (N + j))
def CallSpec (P : Program) (f : FuncId) (os rs outs : List OV) : Prop :=
 ∀ (w : World) (Oc : Nat → Prop) (us : List Value) (ab : Blk),us.length = os.length → (∀ k,Oc k → k < w.heap.size) → SRel w Oc (startSlots 0 os) (fun t => us.getD t Go.undef) ab →
  Calls P f us.toArray w fun e w' => ∃ v,e = .returned v ∧ Grow w w' ab ∧ CallOut w w' Oc ab us rs outs v
structure AfterCall (w w' : World) (Oc : Nat → Prop) (st : Slots) (tm : Nat → Value) (blk : Blk) (r : List Edit × SV) (v : Value) : Prop where
 ex : ∃ blk' pb,Grow w w' blk ∧ Pend w' Oc (edits r.1 st) tm blk' r.2 v pb ∧ (∀ t c k,blk' t c = some k → blk.has k ∨ w.heap.size ≤ k) ∧ (∀ c k,pb c = some k → blk.has k ∨ w.heap.size ≤ k)
section
variable {P : Program} {w w' : World} {Oc : Nat → Prop} {st : Slots} {tm : Nat → Value} {blk : Blk}
theorem okOs_get : ∀ {ts : List TypeId} {ks : List RK} {rs : List OV},okOs P ts ks rs = true → (mkOs P ts ks rs).length = rs.length ∧
 ∀ (j : Nat) (o' : OV),(mkOs P ts ks rs)[j]? = some o' → ∃ t k o,rs[j]? = some o ∧ okO P t k o = true ∧ o' = mkO P t k o ∧ (ovsPlain P ts (mkOs P ts ks rs) = true → ovPlain P t o' = true)
 | [],_,[],_ => ⟨rfl,fun j o' h => by simp [mkOs] at h⟩
 | [],_,_ :: _,h => by simp [okOs] at h
 | _ :: _,_,[],h => by simp [okOs] at h
 | t :: ts,ks,o :: os,h => by
   simp only [okOs,Bool.and_eq_true] at h
   obtain ⟨h1,h2⟩:=okOs_get h.2
   simp only [mkOs,List.headD_cons,List.tail_cons]
   refine ⟨by simp [h1],fun j o' hj => ?_⟩
   cases j with
   | zero =>
     simp only [List.getElem?_cons_zero,Option.some.injEq] at hj
     subst hj
     exact ⟨t,_,o,rfl,h.1,rfl,fun hp => by simp only [ovsPlain,Bool.and_eq_true] at hp;exact hp.1⟩
   | succ j =>
     obtain ⟨t',k,o2,g1,g2,g3,g4⟩:=h2 j o' (by simpa using hj)
     exact ⟨t',k,o2,g1,g2,g3,fun hp => g4 (by simp only [ovsPlain,Bool.and_eq_true] at hp;exact hp.2)⟩
theorem okOuts_get : ∀ {ms : List Md} {ts : List TypeId} {outs : List OV},okOuts P ts ms outs = true → ∀ (i : Nat) (kd : RK),modeAt ms i = .io kd →
 ∃ t,okO P t kd ((outs[i]?).getD (.flat .gone)) = true ∧ (mkOuts P ts ms outs)[i]? = some (mkO P t kd ((outs[i]?).getD (.flat .gone))) ∧ (outsPlain P ts ms (mkOuts P ts ms outs) = true → ovPlain P t (mkO P t kd ((outs[i]?).getD (.flat .gone))) = true)
 | [],_,_,_,i,kd,hm => by simp [modeAt] at hm
 | m :: ms,ts,outs,h,i,kd,hm => by
   have hget : ∀ i : Nat,outs.tail[i]? = outs[i + 1]?:=fun i => by cases outs <;> simp
   cases i with
   | zero =>
     simp [modeAt] at hm
     subst hm
     simp only [okOuts,Bool.and_eq_true] at h
     have h0 : outs.headD (.flat .gone) = (outs[0]?).getD (.flat .gone):=by cases outs <;> rfl
     rw [h0] at h
     refine ⟨ts.headD 0,h.1,by simp only [mkOuts,List.getElem?_cons_zero,h0],fun hp => ?_⟩
     simp only [mkOuts,outsPlain,Bool.and_eq_true,List.headD_cons,h0] at hp
     exact hp.1
   | succ i =>
     have hm' : modeAt ms i = .io kd:=by rw [modeAt_succ] at hm;exact hm
     cases m with
     | io k =>
       simp only [okOuts,Bool.and_eq_true] at h
       obtain ⟨t,g1,g2,g3⟩:=okOuts_get h.2 i kd hm'
       rw [hget] at g1 g2 g3
       refine ⟨t,g1,by simpa [mkOuts] using g2,fun hp => g3 ?_⟩
       simp only [mkOuts,outsPlain,Bool.and_eq_true,List.tail_cons] at hp
       exact hp.2
     | ro =>
       simp only [okOuts] at h
       obtain ⟨t,g1,g2,g3⟩:=okOuts_get h i kd hm'
       rw [hget] at g1 g2 g3
       refine ⟨t,g1,by simpa [mkOuts] using g2,fun hp => g3 ?_⟩
       simpa only [mkOuts,outsPlain,List.tail_cons] using hp
     | tk =>
       simp only [okOuts] at h
       obtain ⟨t,g1,g2,g3⟩:=okOuts_get h i kd hm'
       rw [hget] at g1 g2 g3
       refine ⟨t,g1,by simpa [mkOuts] using g2,fun hp => g3 ?_⟩
       simpa only [mkOuts,outsPlain,List.tail_cons] using hp
theorem get_start : ∀ (os : List OV) (n t : Nat),(startSlots n os).get t = if n ≤ t then (match os[t - n]? with | some o => .home o | none => .dead) else .dead
 | [],n,t => by simp [startSlots,Slots.get]
 | o :: os,n,t => by
   simp only [startSlots,Slots.get]
   by_cases h : t = n
   · subst h;simp
   · rw [nbeq h]
     dsimp only
     rw [get_start os (n + 1) t]
     by_cases h1 : n ≤ t
     · have h2 : n + 1 ≤ t:=by omega
       rw [if_pos h1,if_pos h2]
       have : t - n = (t - (n + 1)) + 1:=by omega
       rw [this,List.getElem?_cons_succ]
     · rw [if_neg h1,if_neg (by omega)]
theorem get_edits_far : ∀ {es : List Edit} {st : Slots} {t : Nat},(∀ e ∈ es,e.s ≠ t) → (st.get t).root = none → (edits es st).get t = st.get t
 | [],_,_,_,_ => rfl
 | e :: es,st,t,h,hr => by
   have h1 : (e.on st).get t = st.get t:=by
    rw [get_e,if_neg fun x => h e (by simp) x.symm,Cut.one_far]
    rw [hr];simp
   show (edits es (e.on st)).get t = _
   rw [get_edits_far (fun f hf => h f (by simp [hf])) (by rw [h1];exact hr),h1]
theorem get_edits_mem : ∀ {es : List Edit} {st : Slots} {p : Edit},onceEach es = true → Rootless es → p ∈ es → (edits es st).get p.s = p.v
 | [],_,_,_,_,h => by cases h
 | e :: es,st,p,ho,hr,h => by
   simp only [onceEach,Bool.and_eq_true] at ho
   rcases List.mem_cons.1 h with rfl | h
   · have hn:=notOn_iff.1 ho.1
     show (edits es (p.on st)).get p.s = _
     have h1 : (p.on st).get p.s = p.v:=by rw [get_e,if_pos rfl]
     rw [get_edits_far (fun f hf hs => hn (List.mem_map.2 ⟨f,hf,hs⟩)) (by rw [h1];exact hr p (by simp)),h1]
   · show (edits es (e.on st)).get p.s = p.v
     exact get_edits_mem ho.2 (fun x hx => hr x (by simp [hx])) h
theorem Pend.same {w : World} {Oc : Nat → Prop} {st st' : Slots} {tm : Nat → Value} {blk : Blk} {v : SV} {u : Value} {pb : Option Nat → Option Nat} (h : Pend w Oc st tm blk v u pb) (hd : Same st' st) : Pend w Oc st' tm blk v u pb :=
 ⟨h.base.same hd,h.inj,h.out,h.rep.move ⟨fun k _ hno => ⟨rfl,hno⟩,fun _ _ => rfl⟩ fun s _ o ho => ⟨by rw [← hd s];exact ho,rfl,fun _ _ _ _ _ _ => rfl⟩⟩
end
end Go.Ev

namespace Go.Ev
section
variable {P : Program} {w w' : World} {Oc : Nat → Prop} {st : Slots} {tm : Nat → Value} {blk : Blk}
theorem backs_loop {ms : List Md} {as : List Arg} {us : List Value} {outs : List OV} {pes : List Edit} {blk0 blk1 ab ob : Blk} {FO : Nat → Prop} (ha : ArgsRep w (blk0.off Oc) st tm as us)
 (hH : SRel w (fun k => Oc k ∨ ab.has k) (edits pes st) tm blk1) (hG : Grow w w' ab) (hrp : Rootless pes) (hop : onceEach pes = true)
 (hob : ∀ t c k,ob t c = some k → ¬ Oc k ∧ k < w'.heap.size) (hinj : ∀ t c t' c' k,ob t c = some k → ob t' c' = some k → t = t' ∧ c = c')
 (hU : ∀ (i : Nat) (kd : RK),modeAt ms i = .io kd → ∃ o u,outs[i]? = some o ∧ us[i]? = some u ∧ ORep w' FO o u (ob i none) (fun j => ob i (some j)) ∧ (∀ f,o = .flat f → f.whole = true))
 (hFO : ∀ k,(blk1.off Oc k ∨ ob.has k) → FO k) :
 ∀ (l : List (Nat × Edit × Edit)),Backs ms as outs l → onceEach (l.map (·.2.2)) = true → (∀ x ∈ l,x.2.1 ∈ pes ∧ x.2.1.s = x.2.2.s) → ∀ (st' : Slots) (blk' : Blk) (S : Nat → Prop),
  SRel w' (fun k => Oc k ∨ ∃ t c,S t ∧ ob t c = some k) st' tm blk' → (∀ t c k,blk' t c = some k → blk1 t c = some k ∨ ob.has k) → (∀ x ∈ l,S x.1) → (∀ x ∈ l,st'.get x.2.1.s = x.2.1.v) →
  ∃ blk'',SRel w' (fun k => Oc k ∨ ∃ t c,(S t ∧ ∀ x ∈ l,x.1 ≠ t) ∧ ob t c = some k) (edits (l.map (·.2.2)) st') tm blk'' ∧ (∀ t c k,blk'' t c = some k → blk1 t c = some k ∨ ob.has k)
 | [],_,_,_,st',blk',S,h,hb,_,_ => ⟨blk',h.world (Nat.le_refl _) (fun _ _ _ => rfl) (fun k _ q => by
     rcases q with q | ⟨t,c,⟨q,_⟩,q'⟩
     · exact .inl q
     · exact .inr ⟨t,c,q,q'⟩),hb⟩
 | (i,p,e) :: l,hB,ho,hpes,st',blk',S,h,hb,hS,hpl => by
   cases hB with
   | cons _ _ _ _ hback hrest hne =>
   simp only [List.map_cons,onceEach,Bool.and_eq_true] at ho
   obtain ⟨a,s,c,o,kd,s',h1,h2,h3,h4,⟨h5,h5'⟩,h6,h7,h8⟩:=hback.ex
   obtain ⟨out,u,u1,u2,u3,u4⟩:=hU i kd h4
   rw [u1] at h5 h5'
   simp only [Option.getD_some] at h5 h5'
   obtain ⟨u',g1,g2⟩:=ha.get.2 i a h1
   rw [u2] at g1
   cases g1
   have hroot:=g2.root s' o h3
   have hss : s = s':=by have:=hroot.2;rw [h2] at this;exact Option.some.inj this
   subst hss
   have hrep:=g2.rep
   rw [h2] at hrep
   obtain ⟨⟨x0,hx0⟩,hpath⟩:=hrep.2 o hroot.1
   have hSi : S i:=hS (i,p,e) (by simp)
   let S' : Nat → Prop:=fun t => S t ∧ t ≠ i
   have hOsub : ∀ k,(Oc k ∨ ∃ t c,S' t ∧ ob t c = some k) → (Oc k ∨ ∃ t c,S t ∧ ob t c = some k):=by
    rintro k (q | ⟨t,c,q,q'⟩)
    · exact .inl q
    · exact .inr ⟨t,c,q.1,q'⟩
   have hmine : ∀ c k,ob i c = some k → (Oc k ∨ ∃ t c,S t ∧ ob t c = some k) ∧ ¬ (Oc k ∨ ∃ t c,S' t ∧ ob t c = some k) ∧ k < w'.heap.size:=by
    intro c k q
    refine ⟨.inr ⟨i,c,hSi,q⟩,?_,(hob _ _ _ q).2⟩
    rintro (q' | ⟨t,c',q',q''⟩)
    · exact (hob _ _ _ q).1 q'
    · exact q'.2 (hinj _ _ _ _ _ q'' q).1
   have hFO' : ∀ (b' : Option Nat → Option Nat),(∀ c k,b' c = some k → blk' s c = some k ∨ ob.has k) → ∀ k,Blk.off (updN blk' s b') (fun k => Oc k ∨ ∃ t c,S' t ∧ ob t c = some k) k → FO k:=by
    rintro b' hb' k (⟨t,c,q⟩ | q | ⟨t,c,_,q⟩)
    · by_cases ht : t = s
      · subst ht
        rw [updN_same] at q
        rcases hb' c k q with q | q
        · rcases hb _ _ _ q with q | q
          · exact hFO k (.inl (.inl ⟨_,_,q⟩))
          · exact hFO k (.inr q)
        · exact hFO k (.inr q)
      · rw [updN_ne _ _ ht] at q
        rcases hb _ _ _ q with q | q
        · exact hFO k (.inl (.inl ⟨_,_,q⟩))
        · exact hFO k (.inr q)
    · exact hFO k (.inl (.inr q))
    · exact hFO k (.inr ⟨t,c,q⟩)
   have hpm : p ∈ pes:=(hpes (i,p,e) (by simp)).1
   have hplp : st'.get p.s = p.v:=hpl (i,p,e) (by simp)
   have step : ∃ blk2,SRel w' (fun k => Oc k ∨ ∃ t c,S' t ∧ ob t c = some k) (e.on st') tm blk2 ∧ (∀ t c k,blk2 t c = some k → blk1 t c = some k ∨ ob.has k):=by
    rcases setAt_spec h5 with ⟨rfl,rfl⟩ | ⟨j,k,cs,g,rfl,rfl,rfl,rfl⟩
    · have htop:=hpath.top_eq
      subst htop
      refine ⟨_,h.fillAll (Oc':=fun k => Oc k ∨ ∃ t c,S' t ∧ ob t c = some k) (b:=ob i) hOsub (u3.move ⟨fun k _ hno => ⟨rfl,fun q => hno (hFO' _ (fun c k q => .inr ⟨i,c,q⟩) k q)⟩,fun _ _ => rfl⟩) (fun c c' x q q' => (hinj _ _ _ _ _ q q').2) (fun c x q => hmine c x q),fun t c k q => ?_⟩
      by_cases ht : t = s
      · subst ht;rw [updN_same] at q;exact .inr ⟨i,c,q⟩
      · rw [updN_ne _ _ ht] at q;exact hb _ _ _ q
    · -- a cell
      obtain ⟨k',cs',f,hk',hj',_⟩:=at_cont hx0
      cases hk'
      have hjl : j < cs.length:=(List.getElem?_eq_some_iff.1 hj').1
      have hp : p = ⟨s,.home (.cont k (cs.set j .gone)),.cells j 1⟩:=by
       obtain ⟨sv,rt⟩:=a
       dsimp only at h2 h3
       subst h2;subst h3
       simp only [Arg.take] at h6
       cases hs2 : setAt s (.cont k cs) (some j) (.flat .gone) with
       | none => rw [hs2] at h6;cases h6
       | some e2 =>
         rw [hs2] at h6
         simp only [one,Option.some.injEq,List.cons.injEq,and_true] at h6
         subst h6
         rcases setAt_spec hs2 with ⟨q,_⟩ | ⟨j2,k2,cs2,g2,q1,q2,q3,q4⟩
         · cases q
         · cases q1;cases q2;cases q3;exact q4
      have hst1 : (edits pes st).get s = .home (.cont k (cs.set j .gone)):=by
       have:=get_edits_mem (st:=st) hop hrp hpm
       rw [hp] at this;exact this
      have hst' : st'.get s = .home (.cont k (cs.set j .gone)):=by
       have:=hplp
       rw [hp] at this;exact this
      have hcell : ∀ q b,blockOf (tm s) = some b → w'.cell? ⟨b,q,none⟩ = w.cell? ⟨b,q,none⟩:=by
       intro q b hbo
       have hr1:=hH.rep s
       rw [hst1] at hr1
       have hm:=ORep.block hr1 (fun e0 => by have h0:=congrArg List.length e0;rw [List.length_set] at h0;simp only [List.length_nil] at h0;omega) b hbo
       have ho1:=hH.out _ _ _ hm
       exact cell_same (hG.same b ho1.2 fun q => ho1.1 (.inr q))
      have hz:=hpath.recs (cs':=cs.set j .gone) hcell
      obtain ⟨hf,hfn⟩:=u3.flat_inv
      have hgok : g.cellOk:=by
       cases g with
       | val v => exact h5'
       | _ => trivial
      have hfill:=h.fill (Oc':=fun k => Oc k ∨ ∃ t c,S' t ∧ ob t c = some k) (g:=g) (m:=ob i none) hst' (by simpa using hjl) hz
       (hf.move ⟨fun k _ hno => ⟨rfl,fun q => hno (hFO' _ (fun c k q => by
         split at q
         · exact .inr ⟨i,none,q⟩
         · exact .inl q) k q)⟩,fun _ _ => rfl⟩) hgok (u4 g rfl) hOsub (fun x q => hmine none x q)
      rw [List.set_set] at hfill
      refine ⟨_,hfill,fun t c x q => ?_⟩
      by_cases ht : t = s
      · subst ht
        rw [updN_same] at q
        split at q
        · exact .inr ⟨i,none,q⟩
        · exact hb _ _ _ q
      · rw [updN_ne _ _ ht] at q;exact hb _ _ _ q
   obtain ⟨blk2,k1,k2⟩:=step
   obtain ⟨blk3,m1,m2⟩:=backs_loop ha hH hG hrp hop hob hinj hU hFO l hrest ho.2 (fun x hx => hpes x (by simp [hx])) (e.on st') blk2 S' k1 k2 (fun x hx => ⟨hS x (by simp [hx]),hne x hx⟩) (fun x hx => by
    have hx1:=hpl x (by simp [hx])
    have hxs:=hpes x (by simp [hx])
    have hes : x.2.1.s ≠ e.s:=by
     intro heq
     exact notOn_iff.1 ho.1 (List.mem_map.2 ⟨x.2.2,List.mem_map.2 ⟨x,hx,rfl⟩,by rw [← hxs.2,heq]⟩)
    rw [get_e,if_neg hes,hx1,Cut.one_far]
    rw [hrp _ hxs.1];simp)
   refine ⟨blk3,?_,m2⟩
   show SRel w' _ (edits (l.map (·.2.2)) (e.on st')) tm blk3
   refine m1.world (Nat.le_refl _) (fun _ _ _ => rfl) (fun k _ q => ?_)
   rcases q with q | ⟨t,c,⟨q1,q2⟩,q3⟩
   · exact .inl q
   · refine .inr ⟨t,c,⟨⟨q1,fun e0 => q2 (i,p,e) (by simp) e0.symm⟩,fun x hx => q2 x (by simp [hx])⟩,q3⟩
end
end Go.Ev

namespace Go.Ev
section
variable {w w' : World} {Oc : Nat → Prop} {st : Slots} {tm : Nat → Value} {blk : Blk}
theorem flats_spec : ∀ {rs : List OV} {fs : List FV},flats rs = some fs → fs.length = rs.length ∧ ∀ (j : Nat) (f : FV),fs[j]? = some f → rs[j]? = some (.flat f)
 | [],fs,h => by simp only [flats,Option.some.injEq] at h;subst h;exact ⟨rfl,fun j f hj => by simp at hj⟩
 | .flat f :: r,fs,h => by
   simp only [flats] at h
   split at h
   · rename_i fs' h1
     cases h
     obtain ⟨g1,g2⟩:=flats_spec h1
     refine ⟨by simp [g1],fun j g hj => ?_⟩
     cases j with
     | zero => simp at hj;subst hj;rfl
     | succ j => exact g2 j g (by simpa using hj)
   · cases h
 | .cont _ _ :: r,fs,h => by simp [flats] at h
 | .tn _ _ :: r,fs,h => by simp [flats] at h
theorem vals_spec : ∀ {rs : List OV} {vs : List PV},vals rs = some vs → vs.length = rs.length ∧ ∀ (j : Nat) (v : PV),vs[j]? = some v → rs[j]? = some (.flat (.val v))
 | [],vs,h => by simp only [vals,Option.some.injEq] at h;subst h;exact ⟨rfl,fun j f hj => by simp at hj⟩
 | .flat (.val v) :: r,vs,h => by
   simp only [vals] at h
   split at h
   · rename_i vs' h1
     cases h
     obtain ⟨g1,g2⟩:=vals_spec h1
     refine ⟨by simp [g1],fun j g hj => ?_⟩
     cases j with
     | zero => simp at hj;subst hj;rfl
     | succ j => exact g2 j g (by simpa using hj)
   · cases h
 | .flat (.nil _) :: r,vs,h => by simp [vals] at h
 | .flat (.own ..) :: r,vs,h => by simp [vals] at h
 | .flat .gone :: r,vs,h => by simp [vals] at h
 | .cont _ _ :: r,vs,h => by simp [vals] at h
 | .tn _ _ :: r,vs,h => by simp [vals] at h
theorem onceEach_slots : ∀ {ps es : List Edit},ps.map (·.s) = es.map (·.s) → onceEach es = true → onceEach ps = true
 | [],_,_,_ => rfl
 | p :: ps,[],h,_ => by simp at h
 | p :: ps,e :: es,h,ho => by
   simp only [List.map_cons,List.cons.injEq] at h
   simp only [onceEach,Bool.and_eq_true] at ho ⊢
   refine ⟨?_,onceEach_slots h.2 ho.2⟩
   rw [notOn_iff,h.1,h.2]
   exact notOn_iff.1 ho.1
theorem okO_gone {P : Program} {t : TypeId} {k : RK} : okO P t k (.flat .gone) = false:=by
 cases k <;> simp [okO,okF]
theorem result_rep {N : Nat} {tmO : Nat → Value} {ob : Blk} {O : Nat → Prop} {rs : List OV} {sv : SV} {stF : Slots} (h : resultSV rs = some sv)
 (hr : ∀ (j : Nat) (o : OV),rs[j]? = some o → ORep w' O o (tmO (N + j)) (ob (N + j) none) (fun q => ob (N + j) (some q)))
 (hinj : ∀ t c t' c' k,ob t c = some k → ob t' c' = some k → t = t' ∧ c = c') :
 ∃ pb,(∀ c c' k,pb c = some k → pb c' = some k → c = c') ∧ (∀ c k,pb c = some k → ∃ j c',j < rs.length ∧ ob (N + j) c' = some k) ∧ SVRep w' O stF tm sv (resultVal rs.length fun j => tmO (N + j)) pb:=by
 match rs,h,hr with
 | [],h,_ =>
   simp only [resultSV,Option.some.injEq] at h
   subst h
   exact ⟨fun _ => none,fun _ _ _ q => (by cases q),fun _ _ q => (by cases q),.flat _ _ _ (.val _ _ .undef)⟩
 | [o],h,hr =>
   simp only [resultSV,Option.some.injEq] at h
   subst h
   exact ⟨ob N,fun c c' k q q' => (hinj _ _ _ _ _ q q').2,fun c k q => ⟨0,c,by simp,q⟩,hr 0 o rfl⟩
 | o1 :: o2 :: rs,h,hr =>
   have hsp : (∃ cs vs,o1 = .cont .nest cs ∧ vals (o2 :: rs) = some vs ∧ sv = .home (.tn cs vs)) ∨ (match flats (o1 :: o2 :: rs) with | some fs => some (SV.home (.cont .tup fs)) | none => none) = some sv:=by
    cases o1 with
    | flat f => exact .inr h
    | tn => exact .inr h
    | cont k cs =>
      cases k with
      | nest =>
        simp only [resultSV] at h
        split at h
        · rename_i vs hv
          simp only [Option.some.injEq] at h
          exact .inl ⟨cs,vs,rfl,hv,h.symm⟩
        · cases h
      | _ => exact .inr h
   rcases hsp with ⟨cs,vs,rfl,hv,rfl⟩ | h
   · · obtain ⟨h1,h2⟩:=vals_spec hv
       refine ⟨ob N,fun c c' k q q' => (hinj _ _ _ _ _ q q').2,fun c k q => ⟨0,c,by simp,q⟩,?_⟩
       have hn:=hr 0 _ rfl
       refine ORep.tn cs vs _ (tmO N) (ob N none) _ hn (by simp [h1]) (by simp) fun j p hj => ?_
       have hlt:=(List.getElem?_eq_some_iff.1 hj).1
       have:=hr (j + 1) (.flat (.val p)) (by simpa using h2 j p hj)
       refine ⟨tmO (N + (j + 1)),?_,this.flat_inv.1.val_inv.1⟩
       have : j + 1 < rs.length + 1 + 1:=by simp only [List.length_cons] at h1;omega
       simp [this]
   split at h
   · rename_i fs hf
     simp only [Option.some.injEq] at h
     subst h
     obtain ⟨h1,h2⟩:=flats_spec hf
     let β : Nat → Option Nat:=fun j => if j < fs.length then ob (N + j) none else none
     let pb : Option Nat → Option Nat:=fun c => match c with
      | none => none
      | some j => β j
     have hβ : ∀ j k,β j = some k → j < fs.length ∧ ob (N + j) none = some k:=by
      intro j k q
      simp only [β] at q
      split at q
      · rename_i hj;exact ⟨hj,q⟩
      · cases q
     refine ⟨pb,fun c c' k q q' => ?_,fun c k q => ?_,?_⟩
     · cases c with
       | none => cases q
       | some j =>
         cases c' with
         | none => cases q'
         | some j' =>
           have:=(hinj _ _ _ _ _ (hβ j k q).2 (hβ j' k q').2).1
           have : j = j':=by omega
           rw [this]
     · cases c with
       | none => cases q
       | some j => exact ⟨j,none,by rw [← h1];exact (hβ j k q).1,(hβ j k q).2⟩
     · refine ORep.tup fs _ β ?_ ⟨fun j f hj => ?_,fun j hj => ?_⟩
       · simp [h1]
       · have hlt:=(List.getElem?_eq_some_iff.1 hj).1
         obtain ⟨g1,_⟩:=(hr j _ (h2 j f hj)).flat_inv
         refine ⟨tmO (N + j),?_,?_⟩
         · have : j < rs.length + 1 + 1:=by simpa [h1] using hlt
           simp [this]
         · have : β j = ob (N + j) none:=by simp [β,hlt]
           rw [this];exact g1
       · simp only [β];rw [if_neg (by omega)]
   · cases h
theorem holds_ite {α : Type} {c : Bool} {a : α} {r : α} (h : (match c with | true => ok a | false => no : Q α).holds r) : c = true ∧ r = a:=by
 cases c with
 | true => exact ⟨rfl,Q.holds_ok h⟩
 | false => exact (Q.holds_no h).elim
theorem call_after {C : Ctx} {f : FuncId} {as : List Arg} {us : List Value} {os rs outs : List OV} {r : List Edit × SV} (h : SRel w Oc st tm blk) (hOc : ∀ k,Oc k → k < w.heap.size) (ha : ArgsRep w (blk.off Oc) st tm as us)
 (hos : argOVs (C.mode f) as = some os) (hap : argsApart (C.mode f) as = true) (hr : (callEnd C f as rs outs).holds r) :
 ∃ OcC ab,us.length = os.length ∧ (∀ k,OcC k → k < w.heap.size) ∧ SRel w OcC (startSlots 0 os) (fun t => us.getD t Go.undef) ab ∧
  ∀ w' v,Grow w w' ab → CallOut w w' OcC ab us rs outs v → AfterCall w w' Oc st tm blk r v:=by
 unfold callEnd at hr
 split at hr
 · exact (Q.holds_no hr).elim
 · rename_i fn hfn
   dsimp only at hr
   obtain ⟨hok,hr⟩:=Q.holds_need hr
   obtain ⟨hoko,hr⟩:=Q.holds_need hr
   split at hr
   · rename_i es sv hes hsv
     obtain ⟨hon,rfl⟩:=holds_ite hr
     obtain ⟨pes,l,hp,htw,hB,hlp,hre,hrp⟩:=argEdits_split hes hos
     have honp : onceEach pes = true:=onceEach_slots htw.slots.1 hon
     obtain ⟨blk1,ab,Oi,H⟩:=preps_rep _ as us os (C.mode f) st blk Oc pes h ha hos hp honp hap
     have hlen : us.length = as.length:=ha.get.1
     have hlo : os.length = as.length:=by
      have : ∀ (ms : List Md) (as : List Arg) (os : List OV),argOVs ms as = some os → os.length = as.length:=by
       intro ms as
       induction as generalizing ms with
       | nil => intro os q;simp only [argOVs,Option.some.injEq] at q;subst q;rfl
       | cons a as ih =>
         intro os q
         simp only [argOVs] at q
         split at q
         · rename_i o os' _ q2
           cases q
           simp [ih _ _ q2]
         · cases q
      exact this _ _ _ hos
     have habOc : ∀ i c k,ab i c = some k → ¬ Oc k ∧ k < w.heap.size:=by
      intro i c k q
      obtain ⟨_,_,s,c',_,_,q'⟩:=H.from_ i c k q
      exact h.out _ _ _ q'
     have habhas : ∀ k,ab.has k → blk.has k:=by
      rintro k ⟨i,c,q⟩
      obtain ⟨_,_,s,c',_,_,q'⟩:=H.from_ i c k q
      exact ⟨s,c',q'⟩
     refine ⟨fun k => blk1.off Oc k ∧ ∀ i,Oi i k,ab,by omega,fun k q => ?_,⟨fun t => ?_,H.inj,fun t c k q => ⟨?_,(habOc t c k q).2⟩⟩,?_⟩
     · rcases q.1 with ⟨t,c,q⟩ | q
       · exact (H.frame.out _ _ _ q).2
       · exact hOc k q
     · rw [get_start,if_pos (Nat.zero_le _),Nat.sub_zero]
       cases ho : os[t]? with
       | none => exact fun c => H.end_ t (by have:=List.getElem?_eq_none_iff.1 ho;omega) c
       | some o =>
         have hlt:=(List.getElem?_eq_some_iff.1 ho).1
         have hu : us[t]? = some (us[t]'(by omega)):=List.getElem?_eq_getElem _
         have hget : us.getD t Go.undef = us[t]'(by omega):=by simp [List.getD,hu]
         show ORep _ _ _ (us.getD t Go.undef) _ _
         rw [hget]
         refine (H.rep t o _ ho hu).move ⟨fun k _ hno => ⟨rfl,?_⟩,fun _ _ => rfl⟩
         rintro (q | q)
         · exact hno (H.has t k q)
         · exact hno (q.2 t)
     · rintro ⟨q1 | q1,_⟩
       · obtain ⟨t',c',q1⟩:=q1
         exact (H.frame.out _ _ _ q1).1 (.inr ⟨t,c,q⟩)
       · exact (habOc t c k q).1 q1
     · intro w' v hG hco
       obtain ⟨N,stO,tmO,ob,hSO,hobs,hN,houts,hres,rfl⟩:=hco.ex
       have hob : ∀ t c k,ob t c = some k → ¬ Oc k ∧ k < w'.heap.size:=by
        intro t c k q
        refine ⟨fun q' => ?_,(hSO.out _ _ _ q).2⟩
        rcases hobs t c k q with ⟨i,c',q2⟩ | q2
        · exact (habOc _ _ _ q2).1 q'
        · have:=hOc k q';omega
       let FO : Nat → Prop:=fun k => blk1.off Oc k ∨ ob.has k
       have hframe : SRel w' (fun k => Oc k ∨ ∃ t c,True ∧ ob t c = some k) (edits pes st) tm blk1:=by
        refine H.frame.world hG.size (fun k hk hno => hG.same k hk fun q => hno (.inr q)) (fun k hk q => ?_)
        rcases q with q | ⟨t,c,_,q⟩
        · exact .inl q
        · rcases hobs t c k q with q2 | q2
          · exact .inr q2
          · omega
       have conv : ∀ (o o' : OV) (t : Nat) (ty : TypeId) (kd : RK),stO.get t = .home o → okO C.P ty kd o = true → o' = mkO C.P ty kd o →
        ((ovsPlain C.P fn.resultTypes.toList (mkOs C.P fn.resultTypes.toList (C.res f) rs) && outsPlain C.P fn.params.toList (C.mode f) (mkOuts C.P fn.params.toList (C.mode f) outs)) = true → ovPlain C.P ty o' = true) →
        ORep w' FO o' (tmO t) (ob t none) (fun j => ob t (some j)):=by
        intro o o' t ty kd hg hk he hpl
        have hrep:=hSO.rep t
        rw [hg] at hrep
        have hrep : ORep w' (ob.off fun k => blk1.off Oc k ∧ ∀ i,Oi i k) o (tmO t) (ob t none) (fun j => ob t (some j)):=hrep
        subst he
        have h1:=mkO_rep hk hrep
        generalize hpn : (ovsPlain C.P fn.resultTypes.toList (mkOs C.P fn.resultTypes.toList (C.res f) rs) && outsPlain C.P fn.params.toList (C.mode f) (mkOuts C.P fn.params.toList (C.mode f) outs)) = pn at *
        cases pn with
        | true => exact h1.plain (hpl rfl) (mkO_typed hk)
        | false =>
          refine h1.move ⟨fun k _ hno => ⟨rfl,?_⟩,fun _ _ => rfl⟩
          rintro (q | q)
          · exact hno (.inr ⟨q,fun i => H.loud rfl i k q⟩)
          · exact hno (.inl q)
       have hU : ∀ (i : Nat) (kd : RK),modeAt (C.mode f) i = .io kd → ∃ o u,(mkOuts C.P fn.params.toList (C.mode f) outs)[i]? = some o ∧ us[i]? = some u ∧ ORep w' FO o u (ob i none) (fun j => ob i (some j)) ∧ (∀ f,o = .flat f → f.whole = true):=by
        intro i kd hm
        obtain ⟨t,g1,g2,g3⟩:=okOuts_get hoko i kd hm
        cases ho : outs[i]? with
        | none => rw [ho] at g1;simp [okO_gone] at g1
        | some o =>
          rw [ho] at g1 g2 g3
          simp only [Option.getD_some] at g1 g2 g3
          obtain ⟨q1,q2,q3⟩:=houts i o ho (by rintro rfl;rw [okO_gone] at g1;cases g1)
          have hu : us[i]? = some (us[i]'q3):=List.getElem?_eq_getElem _
          have hget : us.getD i Go.undef = us[i]'q3:=by simp [List.getD,hu]
          refine ⟨_,_,g2,hu,?_,mkO_whole g1⟩
          have:=conv o _ i t kd q1 g1 rfl (fun q => by simp only [Bool.and_eq_true] at q;exact g3 q.2)
          rw [q2,hget] at this
          exact this
       have honb : onceEach (l.map (·.2.2)) = true:=by
        have hsub : ∀ {es ps bs : List Edit},Twofold es ps bs → onceEach es = true → onceEach bs = true:=by
         intro es ps bs q
         induction q with
         | nil => exact fun _ => rfl
         | once e es ps bs q ih => intro q1;simp only [onceEach,Bool.and_eq_true] at q1;exact ih q1.2
         | twice e p es ps bs _ _ q ih =>
           intro q1
           simp only [onceEach,Bool.and_eq_true] at q1 ⊢
           refine ⟨?_,ih q1.2⟩
           rw [notOn_iff] at q1 ⊢
           intro q2
           obtain ⟨b,hb,hbs⟩:=List.mem_map.1 q2
           exact q1.1 (List.mem_map.2 ⟨b,q.slots.2 b hb,hbs⟩)
        exact hsub htw hon
       have hps : ∀ x ∈ l,x.2.1.s = x.2.2.s:=by
        intro x hx
        have : ∀ {l : List (Nat × Edit × Edit)},Backs (C.mode f) as (mkOuts C.P fn.params.toList (C.mode f) outs) l → ∀ x ∈ l,x.2.1.s = x.2.2.s:=by
         intro l hl
         induction hl with
         | nil => intro x hx;cases hx
         | cons i p e l hb hr hne ih =>
           intro x hx
           rcases List.mem_cons.1 hx with rfl | hx
           · obtain ⟨_,_,_,_,_,_,_,_,_,_,_,_,q,_⟩:=hb.ex
             exact q
           · exact ih x hx
        exact this hB x hx
       have hidx : ∀ x ∈ l,x.1 < as.length:=by
        intro x hx
        have : ∀ {l : List (Nat × Edit × Edit)},Backs (C.mode f) as (mkOuts C.P fn.params.toList (C.mode f) outs) l → ∀ x ∈ l,x.1 < as.length:=by
         intro l hl
         induction hl with
         | nil => intro x hx;cases hx
         | cons i p e l hb hr hne ih =>
           intro x hx
           rcases List.mem_cons.1 hx with rfl | hx
           · obtain ⟨_,_,_,_,_,_,q,_⟩:=hb.ex
             exact (List.getElem?_eq_some_iff.1 q).1
           · exact ih x hx
        exact this hB x hx
       obtain ⟨blk2,m1,m2⟩:=backs_loop (FO:=FO) ha H.frame hG hrp honp hob hSO.inj hU (fun k q => q) l hB honb (fun x hx => ⟨hlp x hx,hps x hx⟩) (edits pes st) blk1 (fun _ => True) hframe (fun _ _ _ q => .inl q) (fun _ _ => trivial)
        (fun x hx => get_edits_mem honp hrp (hlp x hx))
       have hrr : ∀ (j : Nat) (o : OV),(mkOs C.P fn.resultTypes.toList (C.res f) rs)[j]? = some o → ORep w' FO o (tmO (N + j)) (ob (N + j) none) (fun q => ob (N + j) (some q)):=by
        intro j o' hj
        obtain ⟨t,kd,o,g1,g2,g3,g4⟩:=(okOs_get hok).2 j o' hj
        exact conv o o' (N + j) t kd (hres j o g1) g2 g3 (fun q => by simp only [Bool.and_eq_true] at q;exact g4 q.1)
       obtain ⟨pb,p1,p2,p3⟩:=result_rep (tm:=tm) (stF:=edits (l.map (·.2.2)) (edits pes st)) hsv hrr hSO.inj
       rw [(okOs_get hok).1] at p3
       refine ⟨⟨blk2,pb,⟨hG.os,hG.tape,hG.output,hG.size,fun k hk hno => hG.same k hk fun q => hno (habhas k q)⟩,Pend.same ⟨m1.world (Nat.le_refl _) (fun _ _ _ => rfl) (fun k _ q => ?_),p1,fun c k q => ?_,p3.move ⟨fun k _ hno => ⟨rfl,fun q => hno ?_⟩,fun _ _ => rfl⟩ (fun s _ o ho => ⟨ho,rfl,fun _ _ _ _ _ _ => rfl⟩)⟩ (htw.same hon hre hrp st),fun t c k q => ?_,fun c k q => ?_⟩⟩
       · rcases q with q | ⟨c,q⟩
         · exact .inl q
         · obtain ⟨j,c',hj,q'⟩:=p2 c k q
           refine .inr ⟨N + j,c',⟨trivial,fun x hx e0 => ?_⟩,q'⟩
           have:=hidx x hx
           omega
       · obtain ⟨j,c',hj,q'⟩:=p2 c k q
         exact hob _ _ _ q'
       · rcases q with ⟨t,c,q⟩ | q | ⟨c,q⟩
         · rcases m2 _ _ _ q with q | q
           · exact .inl (.inl ⟨t,c,q⟩)
           · exact .inr q
         · exact .inl (.inr q)
         · obtain ⟨j,c',hj,q'⟩:=p2 c k q
           exact .inr ⟨_,_,q'⟩
       · rcases m2 _ _ _ q with q | ⟨t',c',q⟩
         · exact .inl ⟨_,_,H.sub _ _ _ q⟩
         · rcases hobs _ _ _ q with q | q
           · exact .inl (habhas k q)
           · exact .inr q
       · obtain ⟨j,c',hj,q'⟩:=p2 c k q
         rcases hobs _ _ _ q' with q | q
         · exact .inl (habhas k q)
         · exact .inr q
   · exact (Q.holds_no hr).elim
end
end Go.Ev

namespace Go.Ev
theorem needAll_some {α : Type} : ∀ {cs : List Bool} {t : Option α} {x : α},needAll cs t = some x → (∀ c ∈ cs,c = true) ∧ t = some x
 | [],t,x,h => ⟨fun c hc => (by cases hc),h⟩
 | c :: cs,t,x,h => by
   cases c with
   | false => simp [needAll,needB] at h
   | true =>
     obtain ⟨h1,h2⟩:=needAll_some (cs:=cs) (by simpa [needAll,needB] using h)
     exact ⟨fun d hd => by rcases List.mem_cons.1 hd with rfl | hd;rfl;exact h1 d hd,h2⟩
theorem endQ_some {α : Type} {o : Oper} {st : Slots} {q : Res} {k : Slots → List Edit → SV → Option α} {x : α} (h : endQ o st q k = some x) : ∃ r,q.holds r ∧ k (done o st r) r.1 r.2 = some x:=by
 obtain ⟨h1,h2⟩:=needAll_some h
 split at h2
 · rename_i r hr;exact ⟨r,⟨hr,h1⟩,h2⟩
 · cases h2
inductive Perf (C : Ctx) (rec : Rec) (o : Oper) (st : Slots) (r : List Edit × SV) : Prop
 | calls (fo : Operand) (args : Array Operand) (tys : Array TypeId) (g : FuncId) (as : List Arg) (os : List OV) (rr : List OV × List OV) (ho : o.op = .call ⟨.value fo,args,tys⟩) (h1 : callee C ⟨.value fo,args,tys⟩ st = some (g,as)) (h2 : argsApart (C.mode g) as = true)
    (h3 : argOVs (C.mode g) as = some os) (h4 : rec g os = some rr) (h5 : (callEnd C g as rr.1 rr.2).holds r)
 | plain (hn : ∀ fo args tys,o.op ≠ .call ⟨.value fo,args,tys⟩) (h : (compute C.P o st).holds r)
theorem perform_some {α : Type} {C : Ctx} {rec : Rec} {o : Oper} {st : Slots} {k : Slots → List Edit → SV → Option α} {x : α} (h : perform C rec o st k = some x) : ∃ r,Perf C rec o st r ∧ k (done o st r) r.1 r.2 = some x:=by
 unfold perform at h
 split at h
 · rename_i f args tys ho
   split at h
   · cases h
   · rename_i g as hc
     split at h
     · rename_i os h2 h3
       unfold callB at h
       split at h
       · rename_i rr h4
         obtain ⟨r,h5,h6⟩:=endQ_some h
         exact ⟨r,.calls f args tys g as os rr ho hc h2 h3 h4 h5,h6⟩
       · cases h
     · cases h
 · rename_i hn
   obtain ⟨r,h5,h6⟩:=endQ_some h
   exact ⟨r,.plain (fun fo args tys e => hn fo args tys e) h5,h6⟩
inductive Step1 (C : Ctx) (rec : Rec) (ops : Array Oper) (o : Oper) (st : Slots) : Slots → Foot → Prop
 | run (st0 : Slots) (hs : Same st0 st) (hg : o.guard = none ∨ ∃ j want g,o.guard = some (j,want) ∧ (ops[j]?).bind (·.dst) = some g ∧ st.get g = .val (.bool want)) (r : List Edit × SV) (hp : Perf C rec o st0 r) :
    Step1 C rec ops o st (done o st0 r) (footOf ops o st0 r.1 r.2)
 | skip (st0 : Slots) (hs : Same st0 st) (j : Nat) (want : Bool) (g : Nat) (h1 : o.guard = some (j,want)) (h2 : (ops[j]?).bind (·.dst) = some g) (h3 : st.get g = .val (.bool (!want)) ∨ st.get g = .val .undef) :
    Step1 C rec ops o st (skipped o st0) (skipFoot ops o)
theorem fix_same {st : Slots} {g : Nat} {b : Bool} (h : st.get g = .val (.bool b)) : Same (st.fix g b) st:=by
 intro t
 unfold Slots.fix
 rw [get_ins]
 split
 · rename_i e;rw [e,h]
 · rfl
theorem stepK_some {α : Type} {C : Ctx} {rec : Rec} {ops : Array Oper} {o : Oper} {st : Slots} {k : Slots → Foot → Option α} {x : α} (h : stepK C rec ops o st k = some x) : ∃ st' f,Step1 C rec ops o st st' f ∧ k st' f = some x:=by
 unfold stepK at h
 split at h
 · rename_i hg
   obtain ⟨r,h1,h2⟩:=perform_some h
   exact ⟨_,_,.run st (Same.refl _) (.inl hg) r h1,h2⟩
 · rename_i j want hg
   split at h
   · cases h
   · rename_i g hd
     split at h
     · rename_i b hb
       cases want with
       | true =>
         cases b with
         | true =>
           obtain ⟨r,h1,h2⟩:=perform_some (by simpa [ifB] using h)
           exact ⟨_,_,.run _ (fix_same hb) (.inr ⟨j,true,g,hg,hd,hb⟩) r h1,h2⟩
         | false => exact ⟨_,_,.skip _ (fix_same hb) j true g hg hd (.inl hb),by simpa [ifB] using h⟩
       | false =>
         cases b with
         | true => exact ⟨_,_,.skip _ (fix_same hb) j false g hg hd (.inl hb),by simpa [ifB] using h⟩
         | false =>
           obtain ⟨r,h1,h2⟩:=perform_some (by simpa [ifB] using h)
           exact ⟨_,_,.run _ (fix_same hb) (.inr ⟨j,false,g,hg,hd,hb⟩) r h1,h2⟩
     · rename_i hb
       exact ⟨_,_,.skip st (Same.refl _) j want g hg hd (.inr hb),h⟩
     · cases h
inductive Run (C : Ctx) (rec : Rec) (ops : Array Oper) : List Oper → Slots → Slots → List Foot → Prop
 | nil (st : Slots) : Run C rec ops [] st st []
 | cons (o : Oper) (r : List Oper) (st st1 st2 : Slots) (f : Foot) (fs : List Foot) (h : Step1 C rec ops o st st1 f) (hr : Run C rec ops r st1 st2 fs) : Run C rec ops (o :: r) st st2 (f :: fs)
theorem stepsK_some {α : Type} {C : Ctx} {rec : Rec} {ops : Array Oper} : ∀ {l : List Oper} {st : Slots} {fs : List Foot} {k : Slots → List Foot → Option α} {x : α},stepsK C rec ops l st fs k = some x → ∃ st' gs,Run C rec ops l st st' gs ∧ k st' (fs ++ gs) = some x
 | [],st,fs,k,x,h => ⟨st,[],.nil st,by simpa [stepsK] using h⟩
 | o :: l,st,fs,k,x,h => by
   simp only [stepsK] at h
   obtain ⟨st1,f,h1,h2⟩:=stepK_some h
   obtain ⟨st2,gs,h3,h4⟩:=stepsK_some h2
   exact ⟨st2,f :: gs,.cons _ _ _ _ _ _ _ h1 h3,by simpa using h4⟩
structure GrowB (w w' : World) (B : Nat → Prop) : Prop where
 os : w'.os = w.os
 tape : w'.tape = w.tape
 output : w'.output = w.output
 size : w.heap.size ≤ w'.heap.size
 same : ∀ k,k < w.heap.size → ¬ B k → w'.heap[k]? = w.heap[k]?
theorem GrowB.refl (w : World) (B : Nat → Prop) : GrowB w w B:=⟨rfl,rfl,rfl,Nat.le_refl _,fun _ _ _ => rfl⟩
theorem GrowB.step {w0 w w' : World} {B : Nat → Prop} {blk : Blk} (h : GrowB w0 w B) (g : Grow w w' blk) (hb : ∀ t c k,blk t c = some k → B k ∨ w0.heap.size ≤ k) : GrowB w0 w' B :=
 ⟨g.os.trans h.os,g.tape.trans h.tape,g.output.trans h.output,Nat.le_trans h.size g.size,fun k hk hno => by
   rw [g.same k (Nat.lt_of_lt_of_le hk h.size) ?_,h.same k hk hno]
   rintro ⟨t,c,q⟩
   rcases hb t c k q with q | q
   · exact hno q
   · omega⟩
structure Fr (w0 : World) (B : Nat → Prop) (N : Nat) (Oc K : Nat → Prop) (t0 : Nat → Value) (w : World) (st : Slots) (act : Act) : Prop where
 ex : ∃ blk,SRel w Oc st (fun t => act.tmps.getD t Go.undef) blk ∧ ∀ t c k,blk t c = some k → B k ∨ w0.heap.size ≤ k
 defers : act.defers = []
 size : act.tmps.size = N
 grow : GrowB w0 w B
 kept : ∀ t,K t → act.tmps.getD t Go.undef = t0 t
theorem put_tm {act : Act} {d : Nat} {u : Value} (hd : d < act.tmps.size) : (fun t => (act.put (some d) u).tmps.getD t Go.undef) = updN (fun t => act.tmps.getD t Go.undef) d u:=by
 funext t
 simp only [Act.put,updN]
 split
 · rename_i h;subst h;simp [hd]
 · rename_i h
   simp [Array.getElem?_setIfInBounds_ne (Ne.symm h)]
theorem Fr.same {w0 : World} {B : Nat → Prop} {N : Nat} {Oc K : Nat → Prop} {t0 : Nat → Value} {w : World} {st st' : Slots} {act : Act} (h : Fr w0 B N Oc K t0 w st act) (hs : Same st' st) : Fr w0 B N Oc K t0 w st' act:=by
 obtain ⟨blk,h1,h2⟩:=h.ex
 exact ⟨⟨blk,h1.same hs,h2⟩,h.defers,h.size,h.grow,h.kept⟩
theorem Fr.weaken {w0 : World} {B : Nat → Prop} {N : Nat} {Oc K : Nat → Prop} {t0 : Nat → Value} {w : World} {st st' : Slots} {act : Act} (h : Fr w0 B N Oc K t0 w st act) (hd : ∀ t,st'.get t = st.get t ∨ st'.get t = .dead) : Fr w0 B N Oc K t0 w st' act:=by
 obtain ⟨blk,h1,h2⟩:=h.ex
 obtain ⟨blk',g1,g2,_⟩:=h1.weaken hd
 exact ⟨⟨blk',g1,fun t c k q => h2 t c k (g2 _ _ _ q)⟩,h.defers,h.size,h.grow,h.kept⟩
theorem Fr.put {w0 : World} {B : Nat → Prop} {N : Nat} {Oc K : Nat → Prop} {t0 : Nat → Value} {w w' : World} {st : Slots} {act : Act} {o : Oper} {r : List Edit × SV} {u : Value} {blk blk' : Blk} {pb : Option Nat → Option Nat} (h : Fr w0 B N Oc K t0 w st act)
 (hb : ∀ t c k,blk t c = some k → B k ∨ w0.heap.size ≤ k) (hg : Grow w w' blk) (hp : Pend w' Oc (edits r.1 st) (fun t => act.tmps.getD t Go.undef) blk' r.2 u pb)
 (h1 : ∀ t c k,blk' t c = some k → blk.has k ∨ w.heap.size ≤ k) (h2 : ∀ c k,pb c = some k → blk.has k ∨ w.heap.size ≤ k) (hd : ∀ d,o.dst = some d → d < N ∧ ¬ K d) : Fr w0 B N Oc K t0 w' (done o st r) (act.put o.dst u):=by
 have hs : w0.heap.size ≤ w.heap.size:=h.grow.size
 have hsub : ∀ k,(blk.has k ∨ w.heap.size ≤ k) → B k ∨ w0.heap.size ≤ k:=by
  rintro k (⟨t,c,q⟩ | q)
  · exact hb t c k q
  · exact .inr (by omega)
 have hgrow:=h.grow.step hg hb
 cases hdst : o.dst with
 | none =>
   refine ⟨⟨blk',?_,fun t c k q => hsub k (h1 t c k q)⟩,h.defers,h.size,hgrow,h.kept⟩
   have : done o st r = edits r.1 st:=by unfold done;rw [hdst]
   rw [this]
   exact hp.drop
 | some d =>
   obtain ⟨hdn,hdk⟩:=hd d hdst
   have hk:=hp.put d
   rw [← put_tm (by rw [h.size];exact hdn)] at hk
   refine ⟨⟨updN blk' d pb,?_,fun t c k q => ?_⟩,h.defers,by simp [Act.put,h.size],hgrow,fun t ht => ?_⟩
   · have : done o st r = (edits r.1 st).put d r.2:=by unfold done;rw [hdst]
     rw [this]
     exact hk
   · by_cases ht : t = d
     · subst ht;rw [updN_same] at q;exact hsub k (h2 c k q)
     · rw [updN_ne _ _ ht] at q;exact hsub k (h1 t c k q)
   · have:=congrFun (put_tm (act:=act) (u:=u) (by rw [h.size];exact hdn)) t
     rw [this,updN_ne _ _ fun e => hdk (by rw [← e];exact ht)]
     exact h.kept t ht
section
variable {C : Ctx} {rec : Rec} {w0 w : World} {B : Nat → Prop} {N : Nat} {Oc K : Nat → Prop} {t0 : Nat → Value} {st : Slots} {act : Act}
theorem callFunc_enter {P : Program} {g : FuncId} {fn : Func} {c : Code} (hf : P.funcs[g]? = some fn) (hb : fn.body = some c) (hn : (fn.name == "runtime.NumGoroutine") = false) (args : Array Value) : (callFunc g args).run P w = .ok (.enter g args) w:=by
 have hn' : ¬ fn.name = "runtime.NumGoroutine" := by simpa using hn
 simp [callFunc,hf,hn',hb]
def namesOk (P : Program) : Bool:=P.funcs.toList.all fun fn => !(fn.name == "runtime.NumGoroutine")
theorem namesOk_spec {P : Program} (h : namesOk P = true) {g : FuncId} {fn : Func} (hf : P.funcs[g]? = some fn) : (fn.name == "runtime.NumGoroutine") = false:=by
 have:=List.all_eq_true.1 h fn (by
  have:=Array.mem_of_getElem? hf
  exact Array.mem_toList_iff.2 this)
 simpa using this
theorem callee_rep {blk : Blk} (h : SRel w Oc st (fun t => act.tmps.getD t Go.undef) blk) {fo : Operand} {args : Array Operand} {tys : Array TypeId} {g : FuncId} {as : List Arg} (hc : callee C ⟨.value fo,args,tys⟩ st = some (g,as)) :
 ∃ fs cs,act.eval fo = .func (.func g) fs cs ∧ (∃ fn c,C.P.funcs[g]? = some fn ∧ fn.body = some c) ∧ ArgsRep w (blk.off Oc) st (fun t => act.tmps.getD t Go.undef) as ((fs ++ args.map act.eval) ++ cs).toList:=by
 unfold callee at hc
 dsimp only at hc
 split at hc
 · rename_i g' first cap rt hf
   split at hc
   · rename_i code as' hbody hfa
     simp only [Option.some.injEq,Prod.mk.injEq] at hc
     obtain ⟨rfl,rfl⟩:=hc
     have hrep:=(fetch_rep h hf act (fun _ => rfl)).val rfl
     have pure_ : ∀ (vs : List PV) (us : Array Value) (uf : Nat → Value),us.size = vs.length → (∀ (j : Nat) (y : PV),vs[j]? = some y → us[j]? = some (uf j)) → (∀ (j : Nat) (y : PV),vs[j]? = some y → RepV w (blk.off Oc) y (uf j)) →
      ArgsRep w (blk.off Oc) st (fun t => act.tmps.getD t Go.undef) (vs.map fun v => ⟨.val v,none⟩) us.toList:=by
      intro vs us uf hl h1 h2
      have : ∀ (vs : List PV) (us : List Value) (n : Nat),us.length = vs.length → (∀ (j : Nat) (y : PV),vs[j]? = some y → us[j]? = some (uf (n + j))) → (∀ (j : Nat) (y : PV),vs[j]? = some y → RepV w (blk.off Oc) y (uf (n + j))) →
       ArgsRep w (blk.off Oc) st (fun t => act.tmps.getD t Go.undef) (vs.map fun v => ⟨.val v,none⟩) us:=by
       intro vs
       induction vs with
       | nil => intro us n hl _ _;cases us with | nil => exact .nil | cons => simp at hl
       | cons v vs ih =>
         intro us n hl g1 g2
         cases us with
         | nil => simp at hl
         | cons u us =>
           have e0:=g1 0 v rfl
           simp at e0
           subst e0
           refine .cons _ _ _ _ ⟨.flat _ _ _ (.val _ _ (g2 0 v rfl)),fun s o h' => (by cases h'),fun s hs => (by simp [SV.root] at hs)⟩ (ih us (n + 1) (by simpa using hl) (fun j y hj => ?_) (fun j y hj => ?_))
           · have:=g1 (j + 1) y (by simpa using hj)
             rw [show n + 1 + j = n + (j + 1) by omega]
             simpa using this
           · rw [show n + 1 + j = n + (j + 1) by omega]
             exact g2 (j + 1) y (by simpa using hj)
      refine this vs us.toList 0 (by simpa using hl) (fun j y hj => ?_) (fun j y hj => ?_)
      · rw [Nat.zero_add];simpa using h1 j y hj
      · rw [Nat.zero_add];exact h2 j y hj
     generalize hev : act.eval fo = ev at hrep
     cases hrep with
     | fn _ _ _ fs cs uf uc hlf hlc h1 h2 h3 h4 =>
       refine ⟨fs,cs,rfl,?_,?_⟩
       · cases hfn : C.P.funcs[g']? with
         | none => rw [hfn] at hbody;cases hbody
         | some fn => rw [hfn] at hbody;exact ⟨fn,code,rfl,hbody⟩
       · have e : ((fs ++ args.map act.eval) ++ cs).toList = (fs.toList ++ args.toList.map act.eval) ++ cs.toList:=by simp
         rw [e]
         exact ((pure_ first fs uf hlf h1 h2).append (fetchAll_rep h act (fun _ => rfl) _ _ _ hfa)).append (pure_ cap cs uc hlc h3 h4)
   · cases hc
 · cases hc
theorem perf_wp {Q : Exit → Act → World → Prop} {next : Act → World → Prop} {o : Oper} {r : List Edit × SV} (hN : namesOk C.P = true) (hOc : ∀ k,Oc k → k < w0.heap.size) (hrec : ∀ g os rr,rec g os = some rr → CallSpec C.P g os rr.1 rr.2)
 (h : Fr w0 B N Oc K t0 w st act) (hd : ∀ d,o.dst = some d → d < N ∧ ¬ K d) (hp : Perf C rec o st r) (hnext : ∀ u w',Fr w0 B N Oc K t0 w' (done o st r) (act.put o.dst u) → next (act.put o.dst u) w') : o.wp C.P act w next Q:=by
 obtain ⟨blk,hS,hB⟩:=h.ex
 have hOc' : ∀ k,Oc k → k < w.heap.size:=fun k q => Nat.lt_of_lt_of_le (hOc k q) h.grow.size
 cases hp with
 | plain _ hc =>
   obtain ⟨nx,u,w',blk',pb,e1,e2,e3,e4,e5,e6⟩:=(compute_sim hS hOc' (act:=act) (fun _ => rfl) hc).ex
   have hk:=hnext u w' (h.put hB e3 e4 e5 e6 hd)
   unfold Oper.wp
   rw [e1]
   rcases e2 with rfl | ⟨rfl,rfl⟩
   · rw [Oper.upon_value];exact hk
   · rw [Oper.upon_skip];exact hk
 | calls fo args tys g as os rr ho h1 h2 h3 h4 h5 =>
   obtain ⟨fs,cs,hev,⟨fn,code,hfn,hbody⟩,hargs⟩:=callee_rep hS h1
   obtain ⟨OcC,ab,k1,k2,k3,k4⟩:=call_after hS hOc' hargs h3 h2 h5
   have hcall:=hrec g os rr h4 w OcC _ ab k1 k2 k3
   unfold Oper.wp
   have hrun : (execOp act.eval o).run C.P w = .ok (.enter g ((fs ++ args.map act.eval) ++ cs)) w:=by
    have:=callFunc_enter (w:=w) hfn hbody (namesOk_spec hN hfn) ((fs ++ args.map act.eval) ++ cs)
    simp only [execOp,ho,resolve,hev,Deferred.ofValue,invoke,Sem.run_bind,Sem.run_pure,Result.andThen_ok]
    exact this
   rw [hrun,Oper.upon_enter]
   rw [show (((fs ++ args.map act.eval) ++ cs).toList).toArray = (fs ++ args.map act.eval) ++ cs by simp] at hcall
   refine hcall.mono fun e w' he => ?_
   obtain ⟨v,rfl,hg,hco⟩:=he
   obtain ⟨blk',pb,m1,m2,m3,m4⟩:=(k4 w' v hg hco).ex
   exact hnext v w' (h.put hB m1 m2 m3 m4 hd)
theorem yielded_spec {blk : Blk} {ops : Array Oper} (h : SRel w Oc st (fun t => act.tmps.getD t Go.undef) blk) {j g : Nat} (hd : (ops[j]?).bind (·.dst) = some g) :
 (∀ b,st.get g = .val (.bool b) → yielded ops act.tmps j = some b) ∧ (st.get g = .val .undef → yielded ops act.tmps j = none):=by
 have hrep:=h.rep g
 refine ⟨fun b hb => ?_,fun hb => ?_⟩
 · rw [hb] at hrep
   have hv:=((ORep.flat_inv hrep).1.val_inv).1.bool_inv
   unfold yielded
   rw [hd]
   have : act.tmps[g]? = some (.bool b):=by
    cases hg : act.tmps[g]? with
    | none =>
      have : act.tmps.getD g Go.undef = Go.undef:=by simp [hg]
      rw [this] at hv
      simp [Go.undef] at hv
    | some v => simpa [hg] using hv
   simp [this]
 · rw [hb] at hrep
   have hv:=((ORep.flat_inv hrep).1.val_inv).1
   unfold yielded
   rw [hd]
   have hv' : act.tmps.getD g Go.undef = Go.undef:=by
    generalize act.tmps.getD g Go.undef = z at hv
    cases hv
    rfl
   cases hg : act.tmps[g]? with
   | none => simp [hg]
   | some v =>
     have : v = Go.undef:=by simpa [hg] using hv'
     subst this
     simp [hg,Go.undef]
theorem step_wp {ops : Array Oper} {Q : Exit → Act → World → Prop} {next : Act → World → Prop} {o : Oper} {st' : Slots} {f : Foot} (hN : namesOk C.P = true) (hOc : ∀ k,Oc k → k < w0.heap.size) (hrec : ∀ g os rr,rec g os = some rr → CallSpec C.P g os rr.1 rr.2)
 (h : Fr w0 B N Oc K t0 w st act) (hd : ∀ d,o.dst = some d → d < N ∧ ¬ K d) (hp : Step1 C rec ops o st st' f) (hnext : ∀ a w',Fr w0 B N Oc K t0 w' st' a → next a w') :
 if Region.wanted o (yielded ops act.tmps) then o.wp C.P act w next Q ∨ (o.asks C.P act w ∧ LetsOut Q) else next (act.put o.dst undef) w:=by
 obtain ⟨blk,hS,hB⟩:=h.ex
 cases hp with
 | run st0 hs hg r hp =>
   have hw : Region.wanted o (yielded ops act.tmps) = true:=by
    unfold Region.wanted
    rcases hg with hg | ⟨j,want,g,hg,hdj,hv⟩
    · rw [hg]
    · rw [hg]
      simp [(yielded_spec hS hdj).1 want hv]
   rw [if_pos hw]
   exact .inl (perf_wp hN hOc hrec (h.same hs) hd hp fun u w' hf => hnext _ w' hf)
 | skip st0 hs j want g h1 h2 h3 =>
   have hw : Region.wanted o (yielded ops act.tmps) = false:=by
    unfold Region.wanted
    rw [h1]
    rcases h3 with h3 | h3
    · simp [(yielded_spec hS h2).1 _ h3]
    · simp [(yielded_spec hS h2).2 h3]
   rw [hw]
   simp only [Bool.false_eq_true,if_false]
   refine hnext _ w ?_
   have hq : SRel w Oc st0 (fun t => act.tmps.getD t Go.undef) blk:=hS.same hs
   have:=(h.same hs).put (o:=o) (r:=([],.val .undef)) (u:=undef) (blk:=blk) (w':=w) hB (Grow.refl _ _) (quiet_pend hq (.flat _ _ _ (.val _ _ .undef))) (subHas fun _ _ _ q => q) (fun c k q => by cases q) hd
   have e : done o st0 ([],.val .undef) = skipped o st0:=by
    unfold done skipped
    cases o.dst <;> rfl
   rw [e] at this
   exact this
end
end Go.Ev

namespace Go.Ev
section
variable {C : Ctx} {rec : Rec} {ops : Array Oper} {st st' : Slots}
theorem reads_cons (s : Nat) (r : List Operand) : readsOf st (.tmp s :: r) = s :: ((st.get s).rootL ++ readsOf st r):=rfl
theorem reads_mem : ∀ {l : List Operand} {s : Nat},.tmp s ∈ l → s ∈ readsOf st l ∧ ∀ r,(st.get s).root = some r → r ∈ readsOf st l
 | [],_,h => by cases h
 | x :: l,s,h => by
   rcases List.mem_cons.1 h with rfl | h
   · refine ⟨by simp [readsOf],fun r hr => ?_⟩
     simp [readsOf,SV.rootL,hr]
   · obtain ⟨h1,h2⟩:=reads_mem h
     cases x with
     | tmp t => exact ⟨by simp [readsOf,h1],fun r hr => by simp [readsOf,h2 r hr]⟩
     | _ => exact ⟨by simpa [readsOf] using h1,fun r hr => by simpa [readsOf] using h2 r hr⟩
theorem rooted_congr {v : SV} {r : Nat} (h : st'.get r = st.get r) : rooted st' v r = rooted st v r:=by
 unfold rooted;rw [h]
theorem fetch_congr {P : Program} {t : TypeId} {x : Operand} (h : ∀ s,x = .tmp s → st'.get s = st.get s ∧ ∀ r,(st.get s).root = some r → st'.get r = st.get r) : fetch P st' t x = fetch P st t x:=by
 cases x with
 | tmp s =>
   obtain ⟨h1,h2⟩:=h s rfl
   simp only [fetch,h1]
   cases hv : st.get s with
   | ref r c => exact rooted_congr (h2 r (by rw [hv];rfl))
   | adr r c => exact rooted_congr (h2 r (by rw [hv];rfl))
   | adrx r c => exact rooted_congr (h2 r (by rw [hv];rfl))
   | adre r c i off => exact rooted_congr (h2 r (by rw [hv];rfl))
   | view r c l u => exact rooted_congr (h2 r (by rw [hv];rfl))
   | rng r c l => exact rooted_congr (h2 r (by rw [hv];rfl))
   | home o =>
     cases o with
     | flat f => cases f <;> rfl
     | cont k cs => rfl
     | tn => rfl
   | dead => rfl
   | fadr sh v => rfl
 | _ => rfl
def Agree (st st' : Slots) (l : List Operand) : Prop := ∀ s,.tmp s ∈ l → st'.get s = st.get s ∧ ∀ r,(st.get s).root = some r → st'.get r = st.get r
theorem Agree.of {l : List Operand} (h : ∀ s ∈ readsOf st l,st'.get s = st.get s) : Agree st st' l:=by
 intro s hs
 obtain ⟨h1,h2⟩:=reads_mem (st:=st) hs
 exact ⟨h s h1,fun r hr => h r (h2 r hr)⟩
theorem Agree.fetch {P : Program} {t : TypeId} {x : Operand} {l : List Operand} (h : Agree st st' l) (hx : x ∈ l) : fetch P st' t x = fetch P st t x :=
 fetch_congr fun s hs => h s (hs ▸ hx)
theorem Agree.all {P : Program} {l : List Operand} (h : Agree st st' l) : ∀ (xs : List Operand) (ts : List TypeId),(∀ x ∈ xs,x ∈ l) → fetchAll P st' ts xs = fetchAll P st ts xs
 | [],_,_ => rfl
 | x :: xs,ts,hx => by
   simp only [fetchAll]
   rw [h.fetch (hx x (by simp)),h.all xs ts.tail fun y hy => hx y (by simp [hy])]
theorem Agree.parts {P : Program} {l : List Operand} (h : Agree st st' l) (ty : Nat → TypeId) : ∀ (xs : List (Nat × Operand)),(∀ x ∈ xs,x.2 ∈ l) → fetchParts P st' ty xs = fetchParts P st ty xs
 | [],_ => rfl
 | (i,x) :: xs,hx => by
   simp only [fetchParts]
   rw [h.fetch (hx (i,x) (by simp)),h.parts ty xs fun y hy => hx y (by simp [hy])]
theorem Agree.opt {P : Program} {l : List Operand} (h : Agree st st' l) (x : Option Operand) (hx : ∀ y,x = some y → y ∈ l) : optInt P st' x = optInt P st x:=by
 cases x with
 | none => rfl
 | some y => simp only [optInt];rw [h.fetch (hx y rfl)]
theorem compute_congr {P : Program} {o : Oper} (h : Agree st st' o.op.operands.toList) : compute P o st' = compute P o st:=by
 obtain ⟨dst,op,type,pos,after,guard⟩:=o
 dsimp only at h
 have F : ∀ {t : TypeId} {x : Operand},x ∈ op.operands.toList → fetch P st' t x = fetch P st t x:=fun hx => h.fetch hx
 cases op <;> simp only [compute] <;> simp only [Op.operands] at F h
 case move => rw [F (by simp)]
 case assign => rw [F (by simp)]
 case pick => rw [F (by simp),F (by simp),F (by simp)]
 case box => rw [F (by simp)]
 case build t ps => rw [h.parts _ ps.toList fun x hx => by simp;exact ⟨x.1,Array.mem_toList_iff.1 hx⟩]
 case buildSlice t n ps => rw [h.parts _ ps.toList fun x hx => by simp;exact ⟨x.1,Array.mem_toList_iff.1 hx⟩]
 case load => rw [F (by simp)]
 case store => rw [F (by simp),F (by simp)]
 case nilCheck => rw [F (by simp)]
 case binOp => rw [F (by simp),F (by simp)]
 case unOp => rw [F (by simp)]
 case convert => rw [F (by simp)]
 case makeFunc f fs cs => rw [h.all fs.toList _ fun x hx => by simp;exact .inl (Array.mem_toList_iff.1 hx),h.all cs.toList _ fun x hx => by simp;exact .inr (Array.mem_toList_iff.1 hx)]
 case makeSlice => rw [F (by simp),F (by simp)]
 case slice t x lo hi mx => rw [F (by simp),h.opt lo (fun y hy => by subst hy;simp),h.opt hi (fun y hy => by subst hy;simp),h.opt mx (fun y hy => by subst hy;simp)]
 case fieldAddr => rw [F (by simp)]
 case field => rw [F (by simp)]
 case indexAddr => rw [F (by simp),F (by simp)]
 case index => rw [F (by simp),F (by simp)]
 case extract => rw [F (by simp)]
 case call c =>
  obtain ⟨callee,args,tys⟩:=c
  have G : ∀ {t : TypeId} {x : Operand},x ∈ args.toList → fetch P st' t x = fetch P st t x:=fun hx => F (by simp [Call.operands];exact .inr (Array.mem_toList_iff.1 hx))
  dsimp only
  split
  · split
    · rename_i h1 h2;rw [G (by rw [h2];simp)]
    · rfl
  · split
    · rename_i h1 h2
      rw [G (by rw [h2];simp),G (by rw [h2];simp)]
    · rfl
  · split
    · rename_i h1 h2
      rw [G (by rw [h2];simp),G (by rw [h2];simp)]
    · rfl
  · split
    · rename_i h2;rw [G (by rw [h2];simp),G (by rw [h2];simp)]
    · rfl
  · split
    · rename_i h2;rw [G (by rw [h2];simp),G (by rw [h2];simp)]
    · rfl
  · rfl
theorem callee_congr {c : Call} (h : Agree st st' c.operands.toList) : callee C c st' = callee C c st:=by
 unfold callee
 split
 · rename_i f hc
   rw [h.fetch (x:=f) (by simp [Call.operands,hc]),h.all c.args.toList _ fun x hx => by simp [Call.operands];exact .inr (Array.mem_toList_iff.1 hx)]
 · rfl
theorem perf_congr {o : Oper} {r : List Edit × SV} (h : Agree st st' o.op.operands.toList) (hp : Perf C rec o st r) : Perf C rec o st' r:=by
 cases hp with
 | calls fo args tys g as os rr ho h1 h2 h3 h4 h5 =>
   refine .calls fo args tys g as os rr ho ?_ h2 h3 h4 h5
   rw [callee_congr (c:=⟨.value fo,args,tys⟩) (by rw [ho] at h;exact h)]
   exact h1
 | plain hn hc => exact .plain hn (by rw [compute_congr h];exact hc)
def effect (o : Oper) (r : List Edit × SV) : List Edit:=r.1 ++ (match o.dst with
 | some d => [⟨d,r.2,.all⟩]
 | none => [])
theorem done_effect (o : Oper) (st : Slots) (r : List Edit × SV) : done o st r = edits (effect o r) st:=by
 unfold done effect
 rw [edits_append]
 cases o.dst <;> rfl
theorem skipped_effect (o : Oper) (st : Slots) : skipped o st = edits (effect o ([],.val .undef)) st:=by
 unfold skipped effect
 cases o.dst <;> rfl
def Live (st : Slots) (f : Foot) : Prop := ∀ s ∈ f.rd,st.get s ≠ .dead ∧ ∀ r,(st.get s).root = some r → r ∈ f.rd
theorem liveAll_spec {rd : List Nat} : ∀ {l : List Nat},liveAll st rd l = true → ∀ s ∈ l,st.get s ≠ .dead ∧ ∀ r,(st.get s).root = some r → r ∈ rd
 | [],_,s,hs => by cases hs
 | x :: l,h,s,hs => by
   simp only [liveAll,Bool.and_eq_true] at h
   rcases List.mem_cons.1 hs with rfl | hs
   · have h1:=h.1
     split at h1
     · cases h1
     · rename_i hne
       refine ⟨fun e => hne e,fun r hr => ?_⟩
       simp only [SV.rootL,hr,List.all_cons,List.all_nil,Bool.and_true] at h1
       exact (memN_iff _ _).1 h1
   · exact liveAll_spec h.2 s hs
structure Local (C : Ctx) (rec : Rec) (ops : Array Oper) (o : Oper) (st : Slots) (f : Foot) (es : List Edit) : Prop where
 wr : ∀ e ∈ es,e.s ∈ f.wr
 root : ∀ e ∈ es,∀ r,e.v.root = some r → r ∈ f.rd
 again : ∀ st2,(∀ s ∈ f.rd,st2.get s = st.get s) → Step1 C rec ops o st2 (edits es st2) f
 live : Live st f
theorem guard_mem {o : Oper} {j g : Nat} {want : Bool} (h1 : o.guard = some (j,want)) (h2 : (ops[j]?).bind (·.dst) = some g) : g ∈ guardReads ops o:=by
 simp [guardReads,h1,slotOf,h2]
theorem step_local {o : Oper} {f : Foot} (h : Step1 C rec ops o st st' f) (hl : f.live = true) : ∃ es,Same st' (edits es st) ∧ Local C rec ops o st f es:=by
 cases h with
 | run st0 hs hg r hp =>
   have hsame : ∀ t,st0.get t = st.get t:=hs
   have hlive : Live st (footOf ops o st0 r.1 r.2):=by
    intro s hs'
    have:=liveAll_spec hl s hs'
    rw [hsame s] at this
    exact this
   refine ⟨effect o r,by rw [done_effect];exact edits_congr hs _,⟨fun e he => ?_,fun e he q hq => ?_,fun st2 h2 => ?_,hlive⟩⟩
   · unfold effect at he
     rcases List.mem_append.1 he with he | he
     · simp only [footOf,List.mem_append,List.mem_map]
       exact .inr ⟨e,he,rfl⟩
     · split at he
       · rename_i d hd
         simp at he
         subst he
         simp [footOf,hd]
       · cases he
   · unfold effect at he
     show q ∈ footRd ops o st0 r.1 r.2
     unfold footRd
     rcases List.mem_append.1 he with he | he
     · refine List.mem_append_right _ (List.mem_append_right _ (List.mem_append_left _ (List.mem_flatMap.2 ⟨e,he,?_⟩)))
       simp [SV.rootL,hq]
     · split at he
       · simp at he
         subst he
         refine List.mem_append_right _ (List.mem_append_right _ (List.mem_append_right _ ?_))
         simp [SV.rootL,hq]
       · cases he
   · have hag : ∀ s ∈ footRd ops o st0 r.1 r.2,st2.get s = st0.get s:=fun s hs' => by rw [h2 s hs',hsame s]
     have hA : Agree st0 st2 o.op.operands.toList:=Agree.of fun s hs' => hag s (List.mem_append_right _ (List.mem_append_left _ hs'))
     have hreads : ∀ l : List Operand,(∀ s ∈ readsOf st0 l,st2.get s = st0.get s) → readsOf st2 l = readsOf st0 l:=by
      intro l
      induction l with
      | nil => exact fun _ => rfl
      | cons x l ih =>
        intro hl'
        cases x with
        | tmp s =>
          rw [reads_cons,reads_cons,hl' s (by simp [readsOf]),ih fun t ht => hl' t (by simp [readsOf,ht])]
        | _ => exact ih hl'
     have hrd : footRd ops o st2 r.1 r.2 = footRd ops o st0 r.1 r.2:=by
      unfold footRd
      rw [hreads _ fun s hs' => hag s (List.mem_append_right _ (List.mem_append_left _ hs'))]
     have hlv : ∀ l : List Nat,(∀ s ∈ l,st2.get s = st0.get s) → ∀ rd,liveAll st2 rd l = liveAll st0 rd l:=by
      intro l
      induction l with
      | nil => exact fun _ _ => rfl
      | cons x l ih =>
        intro hl' rd
        simp only [liveAll]
        rw [hl' x (by simp),ih (fun s hs' => hl' s (by simp [hs']))]
     have hfoot : footOf ops o st2 r.1 r.2 = footOf ops o st0 r.1 r.2:=by
      unfold footOf
      rw [hrd,hlv _ hag]
     rw [← hfoot,← done_effect]
     refine .run st2 (Same.refl _) ?_ r (perf_congr hA hp)
     rcases hg with hg | ⟨j,want,g,g1,g2,g3⟩
     · exact .inl hg
     · refine .inr ⟨j,want,g,g1,g2,?_⟩
       rw [hag g (List.mem_append_left _ (guard_mem g1 g2)),hsame g]
       exact g3
 | skip st0 hs j want g h1 h2 h3 =>
   refine ⟨effect o ([],.val .undef),by rw [skipped_effect];exact edits_congr hs _,⟨fun e he => ?_,fun e he q hq => ?_,fun st2 h4 => ?_,?_⟩⟩
   · unfold effect at he
     simp only [List.nil_append] at he
     split at he
     · rename_i d hd
       simp at he
       subst he
       simp [skipFoot,hd]
     · cases he
   · unfold effect at he
     simp only [List.nil_append] at he
     split at he
     · simp at he
       subst he
       simp [SV.root] at hq
     · cases he
   · rw [← skipped_effect]
     refine .skip st2 (Same.refl _) j want g h1 h2 ?_
     rw [h4 g (guard_mem h1 h2)]
     exact h3
   · intro s hs'
     have : s = g:=by
      have : s ∈ guardReads ops o:=hs'
      simpa [guardReads,h1,slotOf,h2] using this
     subst this
     rcases h3 with h3 | h3 <;> rw [h3] <;> exact ⟨by simp,fun r hr => by simp [SV.root] at hr⟩
end
theorem meets_spec {l m : List Nat} (h : meets l m = false) : ∀ x ∈ l,x ∉ m:=by
 intro x hx hm
 have : meets l m = true:=List.any_eq_true.2 ⟨x,hx,(memN_iff _ _).2 hm⟩
 rw [h] at this;cases this
theorem apart_foot {a b : Foot} (h : a.apart b = true) : (∀ x ∈ a.wr,x ∉ b.rd) ∧ (∀ x ∈ a.wr,x ∉ b.wr) ∧ (∀ x ∈ a.rd,x ∉ b.wr):=by
 unfold Foot.apart at h
 have h' : meets a.wr b.rd = false ∧ meets a.wr b.wr = false ∧ meets a.rd b.wr = false:=by
  revert h
  cases meets a.wr b.rd <;> cases meets a.wr b.wr <;> cases meets a.rd b.wr <;> simp
 exact ⟨meets_spec h'.1,meets_spec h'.2.1,meets_spec h'.2.2⟩
theorem get_edits_or : ∀ {es : List Edit} {st : Slots} {t : Nat},(∀ e ∈ es,e.s ≠ t) → (edits es st).get t = st.get t ∨ ((edits es st).get t = .dead ∧ ∃ e ∈ es,(st.get t).root = some e.s)
 | [],_,_,_ => .inl rfl
 | e :: es,st,t,h => by
   have h1 : (e.on st).get t = e.cut.one e.s (st.get t):=by rw [get_e,if_neg fun x => h e (by simp) x.symm]
   show (edits es (e.on st)).get t = _ ∨ (edits es (e.on st)).get t = _ ∧ _
   by_cases hr : (st.get t).root = some e.s
   · rcases e.cut.one_or e.s (st.get t) with h2 | h2
     · rcases get_edits_or (es:=es) (st:=e.on st) (fun f hf => h f (by simp [hf])) with h3 | ⟨h3,f,hf,h4⟩
       · left;rw [h3,h1,h2]
       · right;exact ⟨h3,e,by simp,hr⟩
     · right
       refine ⟨?_,e,by simp,hr⟩
       rw [get_edits_far (fun f hf => h f (by simp [hf])) (by rw [h1,h2];rfl),h1,h2]
   · have h2 : (e.on st).get t = st.get t:=by rw [h1,Cut.one_far _ _ hr]
     rcases get_edits_or (es:=es) (st:=e.on st) (fun f hf => h f (by simp [hf])) with h3 | ⟨h3,f,hf,h4⟩
     · left;rw [h3,h2]
     · right;exact ⟨h3,f,by simp [hf],by rw [← h2];exact h4⟩
section
variable {C : Ctx} {rec : Rec} {ops : Array Oper}
structure Item where
 i : Nat
 o : Oper
 f : Foot
 es : List Edit
theorem Local.congr {o : Oper} {st st' : Slots} {f : Foot} {es : List Edit} (h : Local C rec ops o st f es) (hs : ∀ s ∈ f.rd,st'.get s = st.get s) : Local C rec ops o st' f es :=
 ⟨h.wr,h.root,fun st2 h2 => h.again st2 fun s hs' => (h2 s hs').trans (hs s hs'),fun s hs' => by rw [hs s hs'];exact h.live s hs'⟩
theorem swap {x y : Item} {st : Slots} (hx : Local C rec ops x.o st x.f x.es) (hy : Local C rec ops y.o (edits x.es st) y.f y.es) (ha : x.f.apart y.f = true) :
 Local C rec ops y.o st y.f y.es ∧ Local C rec ops x.o (edits y.es st) x.f x.es ∧ Same (edits y.es (edits x.es st)) (edits x.es (edits y.es st)):=by
 obtain ⟨a1,a2,a3⟩:=apart_foot ha
 have hA : ∀ s ∈ y.f.rd,(edits x.es st).get s = st.get s:=by
  intro s hs
  rcases get_edits_or (es:=x.es) (st:=st) (t:=s) (fun e he e0 => a1 _ (hx.wr e he) (e0 ▸ hs)) with h | ⟨h,_⟩
  · exact h
  · exact absurd h (hy.live s hs).1
 have hB : ∀ s ∈ x.f.rd,(edits y.es st).get s = st.get s:=by
  intro s hs
  rcases get_edits_or (es:=y.es) (st:=st) (t:=s) (fun e he e0 => a3 _ hs (e0 ▸ hy.wr e he)) with h | ⟨_,e,he,hr⟩
  · exact h
  · exact absurd (hy.wr e he) (a3 _ ((hx.live s hs).2 _ hr))
 refine ⟨hy.congr fun s hs => (hA s hs).symm,hx.congr hB,edits_comm y.es x.es st fun e he g hg => ⟨fun e0 => a2 _ (hx.wr g hg) (e0 ▸ hy.wr e he),fun hr => a1 _ (hx.wr g hg) (hy.root e he _ hr),fun hr => a3 _ (hx.root g hg _ hr) (hy.wr e he)⟩⟩
inductive LRun (C : Ctx) (rec : Rec) (ops : Array Oper) : List Item → Slots → Slots → Prop
 | nil (st st' : Slots) (h : Same st st') : LRun C rec ops [] st st'
 | cons (x : Item) (l : List Item) (st st' : Slots) (ho : ops[x.i]? = some x.o) (h : Local C rec ops x.o st x.f x.es) (hr : LRun C rec ops l (edits x.es st) st') : LRun C rec ops (x :: l) st st'
theorem LRun.congr : ∀ {l : List Item} {a b c : Slots},LRun C rec ops l a c → Same a b → LRun C rec ops l b c
 | [],_,_,_,.nil _ _ h,hs => .nil _ _ (hs.symm.trans h)
 | _ :: _,_,_,_,.cons x l _ _ ho h hr,hs => .cons x l _ _ ho (h.congr fun s _ => (hs s).symm) (hr.congr (edits_congr hs _))
theorem LRun.front : ∀ {pre : List Item} {x : Item} {post : List Item} {st st' : Slots},LRun C rec ops (pre ++ x :: post) st st' → (∀ y ∈ pre,y.f.apart x.f = true) → LRun C rec ops (x :: (pre ++ post)) st st'
 | [],_,_,_,_,h,_ => h
 | y :: pre,x,post,st,st',h,ha => by
   cases h with
   | cons _ _ _ _ ho hy hr =>
     have h1:=hr.front (fun z hz => ha z (by simp [hz]))
     cases h1 with
     | cons _ _ _ _ ho2 hx hr2 =>
       obtain ⟨g1,g2,g3⟩:=swap hy hx (ha y (by simp))
       exact .cons x _ _ _ ho2 g1 (.cons y _ _ _ ho g2 (hr2.congr g3))
theorem run_items : ∀ {l : List Oper} {n : Nat} {st st' : Slots} {fs : List Foot},Run C rec ops l st st' fs → (∀ j,l[j]? = ops[n + j]?) → (∀ f ∈ fs,f.live = true) →
 ∃ items : List Item,LRun C rec ops items st st' ∧ items.map (·.i) = List.range' n l.length ∧ items.map (·.f) = fs
 | [],n,_,_,_,.nil _,_,_ => ⟨[],.nil _ _ (Same.refl _),rfl,rfl⟩
 | o :: l,n,_,_,_,.cons _ _ st st1 st2 f fs h hr,hi,hl => by
   obtain ⟨es,h1,h2⟩:=step_local h (hl f (by simp))
   obtain ⟨items,g1,g2,g3⟩:=run_items (n:=n + 1) hr (fun j => by have:=hi (j + 1);simpa [Nat.add_assoc,Nat.add_comm 1 j] using this) (fun g hg => hl g (by simp [hg]))
   have ho : ops[n]? = some o:=by simpa using (hi 0).symm
   exact ⟨⟨n,o,f,es⟩ :: items,.cons _ _ _ _ ho h2 (g1.congr h1),by simp [g2,List.range'_succ],by simp [g3]⟩
theorem masks_prefix : ∀ (l : List Oper) (acc : List Nat),(masks l acc).take acc.length = acc ∧ (masks l acc).length = acc.length + l.length
 | [],acc => ⟨by simp [masks],by simp [masks]⟩
 | o :: l,acc => by
   obtain ⟨h1,h2⟩:=masks_prefix l (acc ++ [maskOf acc o])
   refine ⟨?_,by simp only [masks,h2,List.length_append,List.length_cons,List.length_nil];omega⟩
   simp only [masks]
   have:=congrArg (List.take acc.length) h1
   simpa [List.take_take] using this
theorem masks_get : ∀ (l : List Oper) (acc : List Nat) (j : Nat) (o : Oper),l[j]? = some o → (masks l acc).getD (acc.length + j) 0 = maskOf ((masks l acc).take (acc.length + j)) o
 | [],_,_,_,h => by simp at h
 | p :: l,acc,0,o,h => by
   simp at h
   subst h
   obtain ⟨h1,h2⟩:=masks_prefix l (acc ++ [maskOf acc p])
   simp only [masks,Nat.add_zero]
   have e1 : (masks l (acc ++ [maskOf acc p])).take acc.length = acc:=by
    have:=congrArg (List.take acc.length) h1
    simpa [List.take_take] using this
   rw [e1]
   have hlt : acc.length < (masks l (acc ++ [maskOf acc p])).length:=by rw [h2];simp;omega
   have e2 : (masks l (acc ++ [maskOf acc p]))[acc.length]? = some (maskOf acc p):=by
    have:=congrArg (fun z => z[acc.length]?) h1
    simpa [List.getElem?_take] using this
   simp [List.getD,e2]
 | p :: l,acc,j + 1,o,h => by
   have:=masks_get l (acc ++ [maskOf acc p]) j o (by simpa using h)
   simp only [masks]
   simp only [List.length_append,List.length_cons,List.length_nil] at this
   rw [show acc.length + (j + 1) = acc.length + (0 + 1) + j by omega]
   exact this
theorem maskOf_bit {acc : List Nat} {o : Oper} {i : Nat} (h : Nat.testBit (maskOf acc o) i = true) : ∃ e ∈ o.after,Region.binds .any e = true ∧ (i = e.on ∨ Nat.testBit (acc.getD e.on 0) i = true):=by
 have key : ∀ (l : List Edge) (s : Nat),Nat.testBit (l.foldl (fun s e => match Region.binds .any e with
  | true => Nat.lor s (Nat.lor (Nat.shiftLeft 1 e.on) (acc.getD e.on 0))
  | false => s) s) i = true → Nat.testBit s i = true ∨ ∃ e ∈ l,Region.binds .any e = true ∧ (i = e.on ∨ Nat.testBit (acc.getD e.on 0) i = true):=by
  intro l
  induction l with
  | nil => intro s h;exact .inl h
  | cons e l ih =>
    intro s h
    simp only [List.foldl_cons] at h
    rcases ih _ h with h1 | ⟨e',h1,h2⟩
    · cases hb : Region.binds .any e with
      | false => rw [hb] at h1;exact .inl h1
      | true =>
        rw [hb] at h1
        dsimp only at h1
        have e1 : Nat.lor s (Nat.lor (Nat.shiftLeft 1 e.on) (acc.getD e.on 0)) = s ||| (1 <<< e.on ||| acc.getD e.on 0):=rfl
        rw [e1,Nat.testBit_or,Nat.testBit_or,Bool.or_eq_true,Bool.or_eq_true] at h1
        rcases h1 with h1 | h1 | h1
        · exact .inl h1
        · right
          refine ⟨e,by simp,hb,.inl ?_⟩
          rw [Nat.one_shiftLeft,Nat.testBit_two_pow] at h1
          exact (of_decide_eq_true h1).symm
        · right;exact ⟨e,by simp,hb,.inr h1⟩
    · exact .inr ⟨e',by simp [h1],h2⟩
 rcases key o.after.toList 0 (by unfold maskOf at h;exact h) with h | ⟨e,he,h⟩
 · simp at h
 · exact ⟨e,Array.mem_toList_iff.1 he,h⟩
theorem mask_listed {listed : Array Bool} (hcl : ∀ k,listed.getD k false = true → ∀ i,Nat.testBit ((masks ops.toList []).getD k 0) i = true → listed.getD i false = true) {j : Nat} (hj : j ∈ Region.ready .any ops listed) (i : Nat)
 (hb : Nat.testBit ((masks ops.toList []).getD j 0) i = true) : listed.getD i false = true:=by
 obtain ⟨_,o,ho,hall⟩:=mem_ready.1 hj
 have hm:=masks_get ops.toList [] j o (by simpa using ho)
 simp only [List.length_nil,Nat.zero_add] at hm
 rw [hm] at hb
 obtain ⟨e,he,hbd,hi⟩:=maskOf_bit hb
 have hel:=hall e he hbd
 rcases hi with rfl | hi
 · exact hel
 · refine hcl e.on hel i ?_
   by_cases hlt : e.on < j
   · have : ((masks ops.toList []).take j).getD e.on 0 = (masks ops.toList []).getD e.on 0:=by
      simp [List.getD,List.getElem?_take,hlt]
     rw [this] at hi;exact hi
   · have : ((masks ops.toList []).take j).getD e.on 0 = 0:=by
      simp [List.getD,List.getElem?_take,hlt]
     rw [this] at hi;simp at hi
theorem pairsOk_spec {ms : List Nat} {j : Nat} {f : Foot} : ∀ {l : List Foot} {n : Nat},pairsOk ms j f n l = true → ∀ (q : Nat) (g : Foot),l[q]? = some g → Nat.testBit (ms.getD j 0) (n + q) = true ∨ g.apart f = true
 | [],_,_,q,g,h => by simp at h
 | x :: l,n,h,q,g,hq => by
   simp only [pairsOk,Bool.and_eq_true,Bool.or_eq_true] at h
   cases q with
   | zero => simp at hq;subst hq;simpa using h.1
   | succ q =>
     have:=pairsOk_spec h.2 q g (by simpa using hq)
     rw [show n + (q + 1) = n + 1 + q by omega];exact this
theorem allPairs_spec {ms : List Nat} : ∀ {l done : List Foot} {j : Nat},done.length = j → allPairs ms j done l = true → ∀ (p q : Nat) (f g : Foot),p < q → j ≤ q → (done ++ l)[p]? = some g → (done ++ l)[q]? = some f → Nat.testBit (ms.getD q 0) p = true ∨ g.apart f = true
 | [],done,j,hl,_,p,q,f,g,_,hq,_,hf => by
   have:=(List.getElem?_eq_some_iff.1 hf).1
   simp at this
   omega
 | x :: l,done,j,hl,h,p,q,f,g,hpq,hq,hg,hf => by
   simp only [allPairs,Bool.and_eq_true] at h
   by_cases hqj : q = j
   · subst hqj
     have e1 : (done ++ x :: l)[q]? = some x:=by rw [List.getElem?_append_right (by omega)];simp [hl]
     rw [e1] at hf
     cases hf
     have e2 : done[p]? = some g:=by rw [List.getElem?_append_left (by omega)] at hg;exact hg
     have:=pairsOk_spec h.1 p g e2
     simpa using this
   · have:=allPairs_spec (done:=done ++ [x]) (j:=j + 1) (by simp [hl]) h.2 p q f g hpq (by omega) (by simpa using hg) (by simpa using hf)
     exact this
theorem edgesBack_spec : ∀ {l : List Oper} {n : Nat},edgesBack l n = true → ∀ (j : Nat) (o : Oper),l[j]? = some o → ∀ e ∈ o.after,Region.binds .any e = true → e.on < n + j
 | [],_,_,j,o,h,_,_,_ => by simp at h
 | x :: l,n,h,j,o,hj,e,he,hb => by
   simp only [edgesBack,Bool.and_eq_true] at h
   cases j with
   | zero =>
     simp at hj
     subst hj
     have:=List.all_eq_true.1 h.1 e (Array.mem_toList_iff.2 he)
     rw [hb] at this
     simp only [Bool.not_true,Bool.false_or] at this
     rw [Nat.blt_eq] at this
     omega
   | succ j =>
     have:=edgesBack_spec h.2 j o (by simpa using hj) e he hb
     omega
end
end Go.Ev

