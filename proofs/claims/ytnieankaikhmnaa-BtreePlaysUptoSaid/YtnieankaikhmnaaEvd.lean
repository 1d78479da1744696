/- An evaluator of the model's code over pure data, and why it is right: part 4. -/
import Derived.Test.YtnieankaikhmnaaEvc

set_option linter.unusedVariables false

set_option linter.unusedSimpArgs false

set_option linter.unusedSectionVars false

namespace Go.Ev
section
variable {P : Program} {w : World} {Oc : Nat → Prop} {st : Slots} {tm : Nat → Value} {blk : Blk} {r : List Edit × SV}
theorem ORep.rerow {w' : World} {O O' : Nat → Prop} {k : CK} {cs : List FV} {v : Value} {m : Option Nat} {β : Nat → Option Nat} (h : ORep w O (.cont k cs) v m β) {j b : Nat} {f f' : FV} {z : Value} (hj : cs[j]? = some f) (hz : PathV w v (.cont k cs) (some j) z)
 (hm : m ≠ some b) (hβ : ∀ q,q ≠ j → β q ≠ some b) (hw : ∀ x,x ≠ b → w'.heap[x]? = w.heap[x]?) (hO : ∀ x,¬ O x → x ≠ b ∧ ¬ O' x) (hf : FRep w' O' f' z (β j)) (hok : f'.cellOk) (hwh : f'.whole = true) : ORep w' O' (.cont k (cs.set j f')) v m β := by
 have hlt : j < cs.length:=(List.getElem?_eq_some_iff.1 hj).1
 have cells : ∀ get,Cells w O cs get β → get j = some z → Cells w' O' (cs.set j f') get β := by
  intro get H hgz
  refine ⟨fun q g hq => ?_,fun q hq => H.none_ q (by simpa using hq)⟩
  by_cases hqj : q = j
  · subst hqj
    rw [List.getElem?_set_self hlt] at hq
    cases hq
    exact ⟨z,hgz,hf⟩
  · rw [List.getElem?_set_ne (fun e => hqj e.symm)] at hq
    obtain ⟨u,h1,h2⟩:=H.rep q g hq
    exact ⟨u,h1,h2.move ⟨fun x _ hno => ⟨hw x (hO x hno).1,(hO x hno).2⟩,fun x hx => hw x fun e => hβ q hqj (by rw [hx,e])⟩⟩
 have ok : (∀ (q : Nat) (g : FV),cs[q]? = some g → g.cellOk) → ∀ (q : Nat) (g : FV),(cs.set j f')[q]? = some g → g.cellOk:=by
  intro H q g hq
  by_cases hqj : q = j
  · subst hqj;rw [List.getElem?_set_self hlt] at hq;cases hq;exact hok
  · rw [List.getElem?_set_ne (fun e => hqj e.symm)] at hq;exact H q g hq
 have wh : (∀ (q : Nat) (g : FV),cs[q]? = some g → g.whole = true) → ∀ (q : Nat) (g : FV),(cs.set j f')[q]? = some g → g.whole = true:=by
  intro H q g hq
  by_cases hqj : q = j
  · subst hqj;rw [List.getElem?_set_self hlt] at hq;cases hq;exact hwh
  · rw [List.getElem?_set_ne (fun e => hqj e.symm)] at hq;exact H q g hq
 cases h with
 | agg cs us β hl hk h => cases hz with | agg _ _ _ _ hz => exact .agg _ us β (by simpa using hl) (ok hk) (cells _ h hz)
 | tup cs us β hl h => cases hz with | tup _ _ _ _ hz => exact .tup _ us β (by simpa using hl) (cells _ h hz)
 | box cs b' cur e fr β hb ht hl hk h =>
   cases hz with
   | box _ _ _ _ hz => exact .box _ b' cur e fr β (by rw [hw _ fun e => hm (by rw [e])];exact hb) ht (by simpa using hl) (ok hk) (cells _ h (by rwa [cell_at hb] at hz))
 | entsE => simp at hj
 | ents cs n b' c cur e fr β hb ht hl hn hc hk hg h =>
   cases hz with
   | ents _ _ _ _ _ _ hz => exact .ents (cs.set j f') n b' c cur e fr β (by rw [hw _ fun e => hm (by rw [e])];exact hb) ht hl (by simpa using hn) hc (ok hk) (wh hg) (cells _ h (by rwa [cell_at hb] at hz))
 | nestE => simp at hj
 | nest cs b' c cur e fr β hb ht hl hc hk hg h =>
   cases hz with
   | nest _ _ _ _ _ _ hz =>
     have:=ORep.nest (w:=w') (O:=O') (cs.set j f') b' c cur e fr β (by rw [hw _ fun e => hm (by rw [e])];exact hb) ht hl (by simpa using hc) (ok hk) (wh hg) (cells _ h (by rwa [cell_at hb] at hz))
     simpa using this
theorem FRep.own_block {O : Nat → Prop} {sh : Option Nat} {xs sp : List PV} {b n c : Nat} {m : Option Nat} (h : FRep w O (.own sh xs sp) (.slice (some ⟨b,0,none⟩) n c) m) (hne : xs ≠ []) : m = some b:=by
 cases h with
 | ownE => exact absurd rfl hne
 | own => rfl
theorem setPart_spec {sh0 sh : Option Nat} {off : Nat} {x u x' : PV} (h : (setPart sh0 sh off x u).holds x') (hu : pvFits sh u = true) (hx : pvFits sh0 x = true) :
 pvFits sh0 x' = true ∧ u.cells.length = shN sh ∧ off + shN sh ≤ shN sh0 ∧ ∀ (j : Nat) (y : PV),x'.cells[j]? = some y → (off ≤ j ∧ j < off + shN sh ∧ u.cells[j - off]? = some y) ∨ (¬ (off ≤ j ∧ j < off + shN sh) ∧ x.cells[j]? = some y):=by
 have hul:=cells_length hu
 unfold setPart at h
 split at h
 · rename_i hc
   simp only [Bool.and_eq_true] at hc
   cases Q.holds_ok h
   cases shEq_eq hc.2
   cases Nat.eq_of_beq_eq_true hc.1
   refine ⟨hu,hul,by omega,fun j y hj => .inl ⟨by omega,?_,by simpa using hj⟩⟩
   have:=(List.getElem?_eq_some_iff.1 hj).1
   omega
 · rename_i hcond
   clear hcond
   split at h
   · rename_i n
     split at h
     · rename_i h1 h2
       obtain ⟨h3,h⟩:=Q.holds_need h
       cases Q.holds_ok h
       simp only [Bool.and_eq_true] at h3
       have h1:=Nat.le_of_ble_eq_true h1
       have h2:=Nat.eq_of_beq_eq_true h2
       have h4:=Nat.eq_of_beq_eq_true h3.2
       have hlen:=splice_len x.cells u.cells off (by omega)
       refine ⟨?_,hul,by show off + shN sh ≤ n;omega,fun j y hj => ?_⟩
       · simp only [pvFits]
         rw [hlen,h4]
         exact Nat.beq_refl _
       · have hj : (x.cells.take off ++ u.cells ++ x.cells.drop (off + u.cells.length))[j]? = some y:=hj
         rw [splice_get _ _ _ (by omega)] at hj
         split at hj
         · exact .inr ⟨by omega,hj⟩
         · split at hj
           · exact .inl ⟨by omega,by omega,hj⟩
           · exact .inr ⟨by omega,hj⟩
     · exact (Q.holds_no h).elim
   · exact (Q.holds_no h).elim
theorem store_elem (h : SRel w Oc st tm blk) {t : TypeId} {sh : Option Nat} (hs : tShape P t = some sh) {s : Nat} {c : Option Nat} {i off : Nat} {o o' : OV} {sh0 : Option Nat} {xs sp : List PV} {x z : Value} {b : Nat} (hg : st.get s = .home o)
 (hx : o.at c = some (.flat (.own sh0 xs sp))) (hp : PathV w (tm s) o c z) (hb : blockOf z = some b) {u x' : PV} (hv : RepV w (blk.off Oc) u x) (hu : pvFits sh u = true) (hi : i < xs.length) (hq : (setPart sh0 sh off (nthP xs i) u).holds x')
 (ho : setRow c o (.own sh0 (xs.set i x') []) = some o') :
 Gives P (asSkip (Instr.storeAt t (.pointer (some ⟨b,i * shN sh0 + off,none⟩)) x)) w Oc st tm blk ([⟨s,.home o',.no⟩],.val .undef):=by
 obtain ⟨bb,hf,hown⟩:=own_at h hg hx hp
 have hxi : xs[i]? = some (nthP xs i):=by simp [nthP,List.getD,hi]
 cases hf with
 | ownE => simp at hi
 | own _ _ _ b2 c2 cur ty fr us how =>
   simp only [blockOf,Option.some.injEq] at hb
   subst hb
   obtain ⟨p1,p2,p3,p4⟩:=setPart_spec hq hu (how.fits _ _ hxi)
   have hcu : x.cells.size = shN sh ∧ ∀ (j : Nat) (y : PV),u.cells[j]? = some y → isCell y = true ∧ ∃ d,x.cells[j]? = some d ∧ RepV w (blk.off Oc) y d ∧ d.oneCell' = true:=by
    cases sh with
    | none =>
      have hc : isCell u = true:=hu
      obtain ⟨e1,e2⟩:=hv.one hc
      refine ⟨by rw [e1];rfl,fun j y hj => ?_⟩
      rw [cells_of_isCell hc] at hj
      cases j with
      | zero => simp at hj;subst hj;exact ⟨hc,x,by rw [e1];rfl,hv,e2⟩
      | succ j => simp at hj
    | some n =>
      cases u with
      | agg cs =>
        cases hv with
        | agg _ vs us' hl hk hm hr =>
          refine ⟨by simp only [Value.cells];rw [hl];simpa [PV.cells] using p2,fun j y hj => ?_⟩
          have hj : cs[j]? = some y:=hj
          exact ⟨hk _ _ hj,us' j,hm _ _ hj,hr _ _ hj,((hr _ _ hj).one (hk _ _ hj)).2⟩
      | _ => simp [pvFits] at hu
   obtain ⟨hcs,hcell⟩:=hcu
   have hmul : (i + 1) * shN sh0 ≤ xs.length * shN sh0:=Nat.mul_le_mul_right _ hi
   rw [Nat.add_mul,Nat.one_mul] at hmul
   have hmul2 : xs.length * shN sh0 ≤ c2 * shN sh0:=Nat.mul_le_mul_right _ how.len
   have hsize:=how.size
   have hone : ∀ y ∈ x.cells.toList,y.oneCell' = true:=by
    intro y hy
    obtain ⟨q,hq⟩:=List.getElem?_of_mem hy
    have hq' : x.cells[q]? = some y:=by simpa using hq
    have hlt : q < u.cells.length:=by rw [p2,← hcs];exact (Array.getElem?_eq_some_iff.1 hq').1
    obtain ⟨_,d,d1,_,d3⟩:=hcell q u.cells[q] (by simp [hlt])
    rw [hq'] at d1
    cases d1
    exact d3
   have hrun:=run_storeAt (P:=P) hs (o:=i * shN sh0 + off) (v:=x) how.heap how.thaw hcs (by omega) hone
   let cur':=(cur.toList.take (i * shN sh0 + off) ++ x.cells.toList ++ cur.toList.drop (i * shN sh0 + off + x.cells.size)).toArray
   have hcs' : cur'.size = cur.size:=by
    simp only [cur',List.size_toArray]
    rw [show x.cells.size = x.cells.toList.length from by simp,splice_len _ _ _ (by simp;omega)]
    simp
   have hcur' : ∀ q,cur'[q]? = if q < i * shN sh0 + off then cur[q]? else if q < i * shN sh0 + off + x.cells.size then x.cells[q - (i * shN sh0 + off)]? else cur[q]?:=splice_get_array cur x.cells _ (by omega)
   have hwo : ∀ k,k ≠ b2 → (w.setRow b2 cur').heap[k]? = w.heap[k]?:=fun k hk => setRow_other w b2 k cur' hk
   have hwsize : (w.setRow b2 cur').heap.size = w.heap.size:=by simp [World.setRow]
   have hpl:=hown b2 rfl
   have hat : ∃ cc,blk s cc = some b2:=by
    cases c with
    | none => exact hpl
    | some j => exact ⟨_,hpl⟩
   have hoff : (blk.off Oc) b2 := .inl ⟨s,hat⟩
   have hmv : ∀ k,k < w.heap.size → ¬ (blk.off Oc) k → (w.setRow b2 cur').heap[k]? = w.heap[k]? ∧ ¬ (blk.off Oc) k:=fun k _ hno => ⟨hwo k fun e => hno (by rw [e];exact hoff),hno⟩
   have hrow : RowIn (w.setRow b2 cur') (blk.off Oc) sh0 (xs.set i x') cur':=by
    have hother : ∀ (i' : Nat) (y : PV) (j : Nat) (d : PV),i' ≠ i → xs[i']? = some y → y.cells[j]? = some d → ∃ z,cur'[i' * shN sh0 + j]? = some z ∧ RepV (w.setRow b2 cur') (blk.off Oc) d z:=by
     intro i' y j d hne hy hd
     have hjlt : j < shN sh0:=by rw [← cells_length (how.fits _ _ hy)];exact (List.getElem?_eq_some_iff.1 hd).1
     refine ⟨us i' j,?_,(how.rep _ _ _ _ hy hd).move hmv⟩
     rw [hcur']
     by_cases hlt : i' < i
     · have:=Nat.mul_le_mul_right (shN sh0) (show i' + 1 ≤ i by omega)
       rw [Nat.add_mul,Nat.one_mul] at this
       rw [if_pos (by omega)]
       exact how.at_ _ _ _ _ hy hd
     · have:=Nat.mul_le_mul_right (shN sh0) (show i + 1 ≤ i' by omega)
       rw [Nat.add_mul,Nat.one_mul] at this
       rw [if_neg (by omega),if_neg (by omega)]
       exact how.at_ _ _ _ _ hy hd
    refine ⟨fun i' y hy => ?_,fun i' y j d hy hd => ?_,fun i' y j d hy hd => ?_⟩
    all_goals by_cases hii : i' = i
    · subst hii;rw [List.getElem?_set_self hi] at hy;cases hy;exact p1
    · rw [List.getElem?_set_ne (fun e => hii e.symm)] at hy;exact how.fits _ _ hy
    · subst hii
      rw [List.getElem?_set_self hi] at hy
      cases hy
      rcases p4 j d hd with ⟨_,_,q⟩ | ⟨_,q⟩
      · exact (hcell _ _ q).1
      · exact how.cell _ _ _ _ hxi q
    · rw [List.getElem?_set_ne (fun e => hii e.symm)] at hy;exact how.cell _ _ _ _ hy hd
    · subst hii
      rw [List.getElem?_set_self hi] at hy
      cases hy
      rcases p4 j d hd with ⟨q1,q2,q⟩ | ⟨q1,q⟩
      · obtain ⟨_,e,e1,e2,_⟩:=hcell _ _ q
        refine ⟨e,?_,e2.move hmv⟩
        rw [hcur',if_neg (by omega),if_pos (by omega),← e1]
        congr 1;omega
      · refine ⟨us i' j,?_,(how.rep _ _ _ _ hxi q).move hmv⟩
        rw [hcur']
        by_cases hlt : j < off
        · rw [if_pos (by omega)];exact how.at_ _ _ _ _ hxi q
        · rw [if_neg (by omega),if_neg (by omega)];exact how.at_ _ _ _ _ hxi q
    · rw [List.getElem?_set_ne (fun e => hii e.symm)] at hy;exact hother _ _ _ _ hii hy hd
   have hnew : FRep (w.setRow b2 cur') (blk.off Oc) (.own sh0 (xs.set i x') []) (.slice (some ⟨b2,0,none⟩) xs.length c2) (some b2):=by
    have:=hrow.own (b:=b2) (c:=c2) (setRow_heap w b2 cur cur' ty fr how.heap) (how.thaw.size (by omega)) (by omega) (by simpa using how.len) how.capL
    simpa using this
   have hrep:=h.rep s
   rw [hg] at hrep
   have key:=SRel.edit (w':=w.setRow b2 cur') (Oc':=Oc) h ⟨s,.home o',.no⟩ (tm s) (blk s) (by rw [hwsize];exact Nat.le_refl _)
    (fun k _ _ hno => hwo k fun e => hno (by rw [e];exact hat)) (fun k _ hk => .inl hk)
    (fun cc k hk => ⟨.inl ⟨cc,hk⟩,(h.out _ _ _ hk).1,by rw [hwsize];exact (h.out _ _ _ hk).2⟩)
    (fun cc cc' k h1 h2 => (h.inj _ _ _ _ _ h1 h2).2)
    (by
      rw [updN_self]
      show ORep _ _ _ _ _ _
      rcases setRow_at hx ho with ⟨rfl,rfl,rfl⟩ | ⟨j,k,cs,rfl,rfl,hj,rfl⟩
      · have hz:=hp.top_eq
        obtain ⟨hf0,hβ⟩:=(show ORep w (blk.off Oc) (.flat (.own sh0 xs sp)) (tm s) (blk s none) (fun j => blk s (some j)) from hrep).flat_inv
        have hbn : blk s none = some b2:=by
         rw [← hz] at hf0
         exact hf0.own_block (by rintro rfl;simp at hi)
        have e1 : (fun j => blk s (some j)) = fun _ => none:=funext hβ
        rw [e1,hbn,← hz]
        exact .flat _ _ _ hnew
      · have hpl : blk s (some j) = some b2:=hpl
        refine ORep.rerow hrep hj hp (fun e => ?_) (fun q hqj e => ?_) hwo (fun k hno => ⟨fun e => hno (by rw [e];exact hoff),hno⟩) (by rw [hpl];exact hnew) trivial rfl
        · have:=(h.inj _ _ _ _ _ e hpl).2;cases this
        · have:=(h.inj _ _ _ _ _ e hpl).2
          simp only [Option.some.injEq] at this
          exact hqj this)
    (fun t' ht' hroot hv' => by
      rw [updN_self,updN_self]
      have e0 : ((Cut.no).on s st) = st:=rfl
      rw [show (Edit.mk s (.home o') Cut.no).cut.on s st = st from rfl] at hroot ⊢
      refine alias_row hv' hroot hg (by rw [get_edit];simp) rfl hx ho (by simp) (fun q bb hc hbb => ?_)
      cases c with
      | none => exact absurd rfl hc
      | some j =>
        obtain ⟨k,cs,f,rfl,hj,_⟩:=at_cont hx
        have hm:=ORep.block hrep (by rintro rfl;simp at hj) bb hbb
        have hne : bb ≠ b2:=by
         rintro rfl
         have:=(h.inj _ _ _ _ _ hm (show blk s (some j) = some bb from hpl)).2
         cases this
        exact cell_same (hwo bb hne))
   rw [updN_self,updN_self] at key
   exact ⟨⟨.skip,Go.undef,_,blk,fun _ => none,run_asSkip hrun,.inr ⟨rfl,rfl⟩,⟨rfl,rfl,rfl,by rw [hwsize];exact Nat.le_refl _,fun k _ hk => hwo k fun e => hk (by rw [e];exact ⟨s,hat⟩)⟩,key.pend_undef,subHas (fun _ _ _ x => x),by simp⟩⟩
theorem sim_mark (h : SRel w Oc st tm blk) {s : Nat} {sh : Option Nat} {xs sp : List PV} (hg : st.get s = .home (.flat (.own sh xs sp))) {t e : TypeId} (ht : P.underlying t = some (.slice e)) (he : P.underlying e = some (.int .u8)) (hne : 0 < xs.length) :
 Gives P (asNext (convert t t (tm s))) w Oc st tm blk ([⟨s,.home (.flat (.val (.sl sh xs))),.all⟩],.val (.sl sh xs)):=by
 have hrep:=h.rep s
 rw [hg] at hrep
 obtain ⟨hf,hbn⟩:=hrep.flat_inv
 generalize hz : tm s = z at hf
 generalize hm : blk s none = m at hf
 cases hf with
 | ownE => simp at hne
 | own _ _ _ b c cur ty fr us how =>
   let fr' : Nat × Nat:=if fr.1 == fr.2 then (cur.size,cur.size + 1) else (min fr.1 cur.size,max fr.2 (cur.size + 1))
   let w' : World:=w.freeze ⟨b,cur.size,none⟩ 1
   have hheap : w'.heap = w.heap.modify b fun
    | .cells c elem (lo,hi) => .cells c elem (if lo == hi then (cur.size,cur.size + 1) else (min lo cur.size,max hi (cur.size + 1)))
    | o => o:=by
    show (World.freeze w ⟨b,cur.size,none⟩ 1).heap = _
    unfold World.freeze
    rw [if_neg (by decide)]
    rfl
   have hb' : w'.heap[b]? = some (.cells cur ty fr'):=by
    rw [hheap,Array.getElem?_modify,how.heap]
    simp [fr']
   have hoth : ∀ k,k ≠ b → w'.heap[k]? = w.heap[k]?:=by
    intro k hk
    rw [hheap,Array.getElem?_modify,if_neg fun e => hk e.symm]
   have hsize : w'.heap.size = w.heap.size:=by rw [hheap,Array.size_modify]
   have hshape : w.shape? b = some (ty,cur.size):=by
    unfold World.shape?
    rw [how.heap]
   have hrun : (convert t t (.slice (some ⟨b,0,none⟩) xs.length c)).run P w = .ok (.slice (some ⟨b,0,none⟩) xs.length c) w':=by
    simp [convert,run_underlying' ht,run_underlying' he,markStringish,hshape]
    rfl
   have hat : blk.at s b:=⟨none,hm⟩
   have hnot : ¬ Blk.off (updN blk s fun _ => none) Oc b:=by
    rintro (⟨t,c,q⟩ | q)
    · by_cases hts : t = s
      · subst hts;rw [updN_same] at q;cases q
      · rw [updN_ne _ _ hts] at q
        exact hts (h.inj _ _ _ _ _ q hm).1
    · exact (h.out _ _ _ hm).1 q
   have hrepv : RepV w' (Blk.off (updN blk s fun _ => none) Oc) (.sl sh xs) (.slice (some ⟨b,0,none⟩) xs.length c):=by
    refine .sl sh xs ⟨b,0,none⟩ c us how.len how.fits how.cell (fun _ _ _ _ _ _ => hnot) (fun i x j y h1 h2 => ?_) (fun i x j y h1 h2 => ?_)
    · rw [addr_add,cell_at hb',Nat.zero_add]
      exact how.at_ i x j y h1 h2
    · refine (how.rep i x j y h1 h2).move fun k hk hno => ⟨hoth k fun e => hno (.inl ⟨s,none,by rw [e];exact hm⟩),fun q => hno ?_⟩
      rcases q with ⟨t,c,q⟩ | q
      · by_cases hts : t = s
        · subst hts;rw [updN_same] at q;cases q
        · rw [updN_ne _ _ hts] at q;exact .inl ⟨t,c,q⟩
      · exact .inr q
   have key:=SRel.edit (w':=w') (Oc':=Oc) h ⟨s,.home (.flat (.val (.sl sh xs))),.all⟩ (tm s) (fun _ => none) (by omega) (fun k _ _ hk => hoth k fun e => hk (e ▸ hat)) (fun k _ x => .inl x) (by simp) (by simp)
    (by
      show ORep _ _ _ _ _ _
      rw [hz]
      exact .flat _ _ _ (.val _ _ hrepv))
    (fun t ht hroot _ => by rw [get_on] at hroot;exact absurd hroot (cutAll_root _ _))
   rw [updN_self] at key
   refine ⟨⟨_,_,w',_,fun _ => none,run_asNext hrun,.inl rfl,⟨?_,?_,?_,by omega,fun k _ hk => hoth k fun e => hk ⟨s,none,e ▸ hm⟩⟩,quiet_pend key (.flat _ _ _ (.val _ _ hrepv)),fun t c k q => ?_,by simp⟩⟩
   · show (World.freeze w ⟨b,cur.size,none⟩ 1).os = w.os
     unfold World.freeze;rw [if_neg (by decide)]
   · show (World.freeze w ⟨b,cur.size,none⟩ 1).tape = w.tape
     unfold World.freeze;rw [if_neg (by decide)]
   · show (World.freeze w ⟨b,cur.size,none⟩ 1).output = w.output
     unfold World.freeze;rw [if_neg (by decide)]
   · by_cases hts : t = s
     · subst hts;rw [updN_same] at q;cases q
     · rw [updN_ne _ _ hts] at q;exact .inl ⟨t,c,q⟩
theorem sim_convert (h : SRel w Oc st tm blk) (hOc : ∀ k,Oc k → k < w.heap.size) {a : Arg} {u : Value} {s d : TypeId} (ha : ArgRep w (blk.off Oc) st tm a u) (hr : (cConvert P s d a).holds r) :
 Gives P (asNext (convert s d u)) w Oc st tm blk r:=by
 unfold cConvert at hr
 split at hr
 · rename_i x1 x2 k1 k hs hd
   split at hr
   · rename_i x3 k2 n hx
     cases Q.holds_quietP hr
     rw [(ha.val hx).int_inv]
     exact .val h (u := .int k (k.wrap n)) (run_asNext (by simp [convert,run_underlying' hs,run_underlying' hd,Conv.intToInt])) (.int _ _)
   · exact (Q.holds_no hr).elim
 · rename_i x1 x2 hs hd
   split at hr
   · rename_i x3 b hx
     cases Q.holds_quietP hr
     have hv:=ha.val hx
     obtain ⟨c,rfl,_⟩:=hv.str_inv
     exact .val h (run_asNext (by simp [convert,run_underlying' hs,run_underlying' hd])) hv
   · exact (Q.holds_no hr).elim
 · rename_i x1 x2 e hs hd
   split at hr
   · rename_i x3 x4 sh xs he hrow
     split at hr
     · rename_i hsh
       cases shEq_eq hsh
       obtain ⟨hall,hr⟩:=Q.holds_need hr
       cases Q.holds_quietP hr
       obtain ⟨A,c,rfl,hc,hA,hf,hcell⟩:=(arg_pv h ha (row_pv hrow)).sl_inv
       have hbyte : ∀ x ∈ xs,∃ n,x = .int .u8 n:=fun x hx => isByte_spec (List.all_eq_true.1 hall x hx)
       have hns : ∃ ns : List Int,xs = ns.map (PV.int .u8):=by
        have : ∀ l : List PV,(∀ x ∈ l,∃ n,x = .int .u8 n) → ∃ ns : List Int,l = ns.map (PV.int .u8):=by
         intro l
         induction l with
         | nil => exact fun _ => ⟨[],rfl⟩
         | cons x xs ih =>
           intro hx
           obtain ⟨n,rfl⟩:=hx x (by simp)
           obtain ⟨ns,rfl⟩:=ih fun y hy => hx y (by simp [hy])
           exact ⟨n :: ns,rfl⟩
        exact this xs hbyte
       obtain ⟨ns,rfl⟩:=hns
       have hstr : ∀ b : ByteArray,b.data.toList = ns.map (fun n => UInt8.ofNat n.toNat) → RepV w (blk.off Oc) (.str ((ns.map (PV.int .u8)).map u8Of)) (.string b):=by
        intro b hb
        have : (ns.map (PV.int .u8)).map u8Of = b.data.toList:=by rw [hb];simp [u8Of]
        rw [this]
        exact .str b
       have hconv:=run_convert_bytes_string (P:=P) w s d e A (ns.map (PV.int .u8)).length c hs he hd
       cases A with
       | none =>
         have hc0:=hA rfl
         subst hc0
         have hn0 : ns = []:=List.eq_nil_of_length_eq_zero (by simpa using hc)
         subst hn0
         refine .val h (u := .string .empty) (run_asNext ?_) (hstr _ (by simp))
         rw [hconv]
         simp [Conv.bytesToString]
       | some a =>
         have hl:=run_loadCells_list (P:=P) w a (ns.map (Value.int .u8)) (fun j v hj => by
          rw [List.getElem?_map,Option.map_eq_some_iff] at hj
          obtain ⟨n,hn,rfl⟩:=hj
          obtain ⟨_,a',z,ha',_,hz,hrep⟩:=(hcell j (.int .u8 n) 0 (.int .u8 n) (by simp [hn]) rfl)
          cases ha'
          rw [hrep.int_inv] at hz
          simpa [shN] using hz)
         rw [List.length_map] at hl
         have hb:=run_bytesToString (P:=P) w a ns.length c ns hl
         refine .val h (run_asNext (u := .string _) (by rw [hconv,List.length_map];exact hb)) (hstr _ ?_)
         rw [fold_push]
         simp
     · exact (Q.holds_no hr).elim
   · exact (Q.holds_no hr).elim
 · rename_i x1 x2 e hs hd
   split at hr
   · rename_i x3 x4 b he hx
     split at hr
     · rename_i hsz
       obtain ⟨hs63,hr⟩:=Q.holds_need hr
       have hs63:=Nat.le_of_ble_eq_true hs63
       cases Q.holds_quiet hr
       obtain ⟨c,rfl,rfl⟩:=(ha.val hx).str_inv
       have hs63 : c.size ≤ 9223372036854775807:=by simpa using hs63
       have hrun:=run_bytes_of_string (P:=P) w s d e c hs hd he
       have hge:=grownCap_ge w c.size 0 e
       have hlen : (c.data.toList.map pvByte).length = c.size:=by simp
       have hrow : RowIn w (blk.off Oc) none (c.data.toList.map pvByte) (bytesRow c (grownCap w c.size 0 e)):=by
        refine ⟨fun i x hi => ?_,fun i x j y hi hj => ?_,fun i x j y hi hj => ?_⟩
        all_goals
         rw [List.getElem?_map,Option.map_eq_some_iff] at hi
         obtain ⟨b,hb,rfl⟩:=hi
        · rfl
        · have hj : [pvByte b][j]? = some y:=hj
          cases j with
          | zero => simp at hj;subst hj;rfl
          | succ j => simp at hj
        · have hj : [pvByte b][j]? = some y:=hj
          cases j with
          | zero =>
            simp at hj
            subst hj
            refine ⟨.int .u8 b.toNat,?_,.int _ _⟩
            have hlt : i < c.data.size:=by simpa using (List.getElem?_eq_some_iff.1 hb).1
            have hb' : c.data[i]? = some b:=by simpa using hb
            simp only [shN,Nat.mul_one,Nat.add_zero,bytesRow]
            rw [Array.getElem?_append_left (by simpa using hlt),Array.getElem?_map,hb']
            rfl
          | succ j => simp at hj
       let w' : World:=w.drew.alloc (.cells (bytesRow c (grownCap w c.size 0 e)) e ((bytesRow c (grownCap w c.size 0 e)).size,(bytesRow c (grownCap w c.size 0 e)).size + 1))
       have hnew : w'.heap[w.heap.size]? = some (.cells (bytesRow c (grownCap w c.size 0 e)) e ((bytesRow c (grownCap w c.size 0 e)).size,(bytesRow c (grownCap w c.size 0 e)).size + 1)):=heap_new w.drew _
       have h' : SRel w' Oc st tm blk:=h.world (by show w.heap.size ≤ (w.heap.push _).size;simp) (fun k hk _ => by
        show (w.heap.push _)[k]? = w.heap[k]?
        rw [Array.getElem?_push_lt hk,Array.getElem?_eq_getElem hk]) (fun k _ x => x)
       have hno : ¬ blk.off Oc w.heap.size:=by
        rintro (⟨t,c,q⟩ | q)
        · exact Nat.lt_irrefl _ (h.out _ _ _ q).2
        · exact Nat.lt_irrefl _ (hOc _ q)
       have hv : RepV w' (blk.off Oc) (.sl none (c.data.toList.map pvByte)) (.slice (some ⟨w.heap.size,0,none⟩) c.size (grownCap w c.size 0 e)):=by
        have:=RepV.sl (w:=w') (O:=blk.off Oc) none (c.data.toList.map pvByte) ⟨w.heap.size,0,none⟩ (grownCap w c.size 0 e) (fun i j => (bytesRow c (grownCap w c.size 0 e)).getD (i + j) Go.undef) (by rw [hlen];exact hge) hrow.fits (fun i x j y hi hj => hrow.cell i x j y hi hj) (fun _ _ _ _ _ _ => hno)
         (fun i x j y hi hj => by
           obtain ⟨u,h1,h2⟩:=hrow.rep i x j y hi hj
           rw [addr_add,cell_at hnew]
           simp only [shN,Nat.mul_one,Nat.zero_add] at h1 ⊢
           simp [Array.getD_eq_getD_getElem?,h1])
         (fun i x j y hi hj => by
           obtain ⟨u,h1,h2⟩:=hrow.rep i x j y hi hj
           simp only [shN,Nat.mul_one] at h1
           simp only [Array.getD_eq_getD_getElem?,h1,Option.getD_some]
           exact h2.move fun k hk hn => ⟨by
            show (w.heap.push _)[k]? = w.heap[k]?
            rw [Array.getElem?_push_lt hk,Array.getElem?_eq_getElem hk],hn⟩)
        rw [hlen] at this
        exact this
       exact ⟨⟨_,_,w',blk,fun _ => none,run_asNext hrun,.inl rfl,grow_alloc rfl rfl rfl rfl,quiet_pend h' (.flat _ _ _ (.val _ _ hv)),subHas (fun _ _ _ x => x),by simp⟩⟩
     · exact (Q.holds_no hr).elim
   · exact (Q.holds_no hr).elim
 · rename_i x1 x2 e e' hs hd
   split at hr
   · rename_i x3 x4 he hsd
     cases Nat.eq_of_beq_eq_true hsd
     rw [hs] at hd
     cases hd
     split at hr
     · rename_i x5 x6 q s' sh xs sp hsv hrt
       obtain ⟨hne,hr⟩:=Q.holds_need hr
       cases Q.holds_ok hr
       obtain ⟨sv,rt⟩:=a
       dsimp only at hsv hrt
       subst hsv
       subst hrt
       cases ha.slot rfl
       obtain ⟨hg,_⟩:=ha.home
       have hu:=(ha.rep.2 _ hg).2.top_eq
       subst hu
       exact sim_mark h hg hs he (by rw [Nat.blt_eq] at hne;exact hne)
     · exact (Q.holds_no hr).elim
   · exact (Q.holds_no hr).elim
 · exact (Q.holds_no hr).elim
theorem etaLike_eq {old v : PV} (h : hasLike old v = true) : etaLike old v = v:=by
 cases old <;> cases v <;> simp_all [hasLike,etaLike,PV.toI,PV.toB,PV.toS,PV.toL]
 exact shEq_eq h
theorem putX_len (j : Nat) (u : List PV) : ∀ (cs : List FV) (q : Nat),(putX j u q cs).length = cs.length
 | [],_ => rfl
 | c :: cs,q => by simp [putX,putX_len j u cs (q + 1)]
theorem putX_get (j : Nat) (u : List PV) : ∀ (cs : List FV) (q i : Nat) (c : FV),putXok j u q cs = true → cs[i]? = some c → (putX j u q cs)[i]? = some (.val (newAt j (q + i) u c.frz))
 | [],_,i,c,_,h => by simp at h
 | c :: cs,q,0,c',ho,h => by
   simp only [putXok,Bool.and_eq_true] at ho
   simp at h
   subst h
   simp [putX,etaLike_eq ho.1]
 | c :: cs,q,i + 1,c',ho,h => by
   simp only [putXok,Bool.and_eq_true] at ho
   have:=putX_get j u cs (q + 1) i c' ho.2 (by simpa using h)
   simp only [putX,List.getElem?_cons_succ,this]
   rw [show q + 1 + i = q + (i + 1) by omega]
theorem putX_eq {j : Nat} {u : List PV} {cs : List FV} (hp : allPure cs = true) (ho : putXok j u 0 cs = true) (hl : j + u.length ≤ cs.length) : putX j u 0 cs = cs.take j ++ u.map FV.val ++ cs.drop (j + (u.map FV.val).length):=by
 have hl' : j + (u.map FV.val).length ≤ cs.length:=by simpa using hl
 apply List.ext_getElem?
 intro i
 rw [splice_get _ _ _ hl']
 by_cases hi : i < cs.length
 · obtain ⟨v,hv⟩:=allPure_get hp i _ (List.getElem?_eq_getElem hi)
   have hg : cs[i]? = some (.val v):=by rw [List.getElem?_eq_getElem hi,hv]
   rw [putX_get j u cs 0 i _ ho hg,Nat.zero_add]
   by_cases h1 : i < j
   · have : Nat.ble j i = false:=by
      cases hb : Nat.ble j i with
      | false => rfl
      | true => rw [Nat.ble_eq] at hb;omega
     simp [newAt,this,h1,hg,FV.frz]
   · rw [if_neg h1]
     have hb : Nat.ble j i = true:=bleT (by omega)
     by_cases h2 : i < j + u.length
     · have hb2 : Nat.blt i (j + u.length) = true:=bltT h2
       have h3 : i - j < u.length:=by omega
       simp [newAt,hb,hb2,h2,List.getElem?_eq_getElem h3]
     · have hb2 : Nat.blt i (j + u.length) = false:=by
        cases hb2 : Nat.blt i (j + u.length) with
        | false => rfl
        | true => rw [Nat.blt_eq] at hb2;omega
       simp [newAt,hb,hb2,h2,hg,FV.frz]
 · have h1 : (putX j u 0 cs)[i]? = none:=by rw [List.getElem?_eq_none];rw [putX_len];omega
   rw [h1,if_neg (by omega),if_neg (by omega),List.getElem?_eq_none (by omega)]
theorem cutCells_more {s lo n lo' n' : Nat} {v : SV} (h1 : lo' ≤ lo) (h2 : lo + n ≤ lo' + n') : SV.cutCells s lo' n' v = SV.cutCells s lo n v ∨ SV.cutCells s lo' n' v = .dead:=by
 unfold SV.cutCells
 cases v.rootc with
 | none => exact .inl rfl
 | some p =>
   obtain ⟨r,c,m⟩:=p
   dsimp only
   cases hr : Nat.beq r s with
   | false => exact .inl rfl
   | true =>
     cases ha : Nat.blt lo' (c + m) && Nat.blt c (lo' + n') with
     | true => exact .inr rfl
     | false =>
       have : (Nat.blt lo (c + m) && Nat.blt c (lo + n)) = false:=by
        cases hb : Nat.blt lo (c + m) && Nat.blt c (lo + n) with
        | false => rfl
        | true =>
          exfalso
          simp only [Bool.and_eq_true,Nat.blt_eq] at hb
          have : (Nat.blt lo' (c + m) && Nat.blt c (lo' + n')) = true:=by simp only [Bool.and_eq_true,Nat.blt_eq];omega
          rw [ha] at this;cases this
       rw [this]
       exact .inl rfl
theorem Gives.cutMore {s : Sem Next} {e : Nat} {v : SV} {lo n lo' n' : Nat} (h : Gives P s w Oc st tm blk ([⟨e,v,.cells lo n⟩],.val .undef)) (h1 : lo' ≤ lo) (h2 : lo + n ≤ lo' + n') :
 Gives P s w Oc st tm blk ([⟨e,v,.cells lo' n'⟩],.val .undef):=by
 obtain ⟨nx,u,w',blk',pb,e1,e2,e3,e4,e5,e6⟩:=h.ex
 have hnone : ∀ c,pb c = none:=by
  have hrep : ORep w' _ (.val .undef) u (pb none) (fun j => pb (some j)):=e4.rep
  obtain ⟨h1,h2⟩:=hrep.flat_inv
  intro c
  cases c with
  | none => exact h1.val_inv.2
  | some j => exact h2 j
 obtain ⟨blk2,g1,g2,_⟩:=e4.drop.weaken (st':=edits [⟨e,v,.cells lo' n'⟩] st) (fun t => by
  simp only [edits]
  rw [get_edit,get_edit]
  split
  · exact .inl rfl
  · rw [get_on,get_on]
    exact cutCells_more h1 h2)
 have hu : u = Go.undef:=by
  have hrep : ORep w' _ (.val .undef) u (pb none) (fun j => pb (some j)):=e4.rep
  have:=(hrep.flat_inv.1).val_inv.1
  cases this
  rfl
 subst hu
 exact ⟨⟨nx,_,w',blk2,fun _ => none,e1,e2,e3,g1.pend_undef,fun t c k hk => e5 t c k (g2 _ _ _ hk),fun c k hk => by cases hk⟩⟩
theorem pure_loose (h : SRel w Oc st tm blk) {v : Arg} {x : Value} {u : PV} {sh : Option Nat} (hv : ArgRep w (blk.off Oc) st tm v x) (hs : v.sv = .home (.flat (.val u))) (hf : pvFits sh u = true) :
 ∃ β,Loose w Oc st tm blk (u.cells.map FV.val) x.cells β ∧ (∀ q y,β q = some y → blk.has y) ∧ (u.cells.map FV.val).length = shN sh:=by
 obtain ⟨hc,_⟩:=asCells_pv hs hf
 obtain ⟨hl,hcr⟩:=asCells_rep h hv hc
 rcases hcr.ex with ⟨_,k2,k3⟩ | ⟨_,_,_,k1,_⟩
 · exact ⟨_,Loose.none h k2 (fun j f hj => (k3 j f hj).1) (fun j f hj => (k3 j f hj).2),(by simp),hl⟩
 · cases k1
theorem sim_store (h : SRel w Oc st tm blk) {a v : Arg} {u x : Value} {t : TypeId} (ha : ArgRep w (blk.off Oc) st tm a u) (hv : ArgRep w (blk.off Oc) st tm v x) (hr : (cStore P t a v).holds r) :
 Gives P (asSkip (Instr.storeAt t u x)) w Oc st tm blk r:=by
 unfold cStore at hr
 split at hr
 · exact (Q.holds_no hr).elim
 · rename_i sh hs
   obtain ⟨sv,rt⟩:=a
   dsimp only at hr
   split at hr
   · rename_i x1 x2 s s' cs
     obtain ⟨⟨new,es⟩,hc,hr'⟩:=Q.holds_withA hr
     cases ha.slot rfl
     obtain ⟨hg,_⟩:=ha.home
     have hu:=(ha.rep.2 _ hg).2.top_eq
     subst hu
     obtain ⟨b,hb⟩:=tm_box h hg
     obtain ⟨hl,hcr⟩:=asCells_rep h hv hc
     obtain ⟨blk',β,h1,h2,h3⟩:=hcr.loose h
     rw [hb]
     exact store_at hs (.inl rfl) (fun e => by cases e) hg (by rw [hb];rfl) h1 h2 h3 hl hr'
   · rename_i x1 x2 s j s' cs
     obtain ⟨⟨new,es⟩,hc,hr'⟩:=Q.holds_withA hr
     cases ha.slot rfl
     obtain ⟨hg,_⟩:=ha.home
     obtain ⟨b,hb,rfl⟩:=ha.rep.2 _ hg
     obtain ⟨hl,hcr⟩:=asCells_rep h hv hc
     obtain ⟨blk',β,h1,h2,h3⟩:=hcr.loose h
     exact store_at hs (.inl rfl) (fun e => by cases e) hg hb h1 h2 h3 hl hr'
   · rename_i x1 x2 s j s' cs
     split at hr
     · rename_i x3 uu hvs
       split at hr
       · rename_i hpu
         simp only [Bool.and_eq_true] at hpu
         obtain ⟨hl,hr'⟩:=Q.holds_need hr
         obtain ⟨ho,hr2⟩:=Q.holds_need hr'
         cases Q.holds_ok hr2
         simp only [Nat.ble_eq] at hl
         cases ha.slot rfl
         obtain ⟨hg,_⟩:=ha.home
         obtain ⟨b,hb,rfl⟩:=ha.rep.2 _ hg
         obtain ⟨β,h1,h3,hlen⟩:=pure_loose h hv hvs hpu.2
         have hlen' : uu.cells.length = shN sh:=by simpa using hlen
         rw [putX_eq hpu.1 ho (by omega)]
         refine Gives.cutMore (lo:=j) (n:=(uu.cells.map FV.val).length) ?_ (Nat.zero_le _) (by simp;omega)
         refine store_at hs (.inl rfl) (fun e => by cases e) hg hb (es:=[]) h1 (fun _ _ _ q => q) h3 hlen ?_
         have hb1 : Nat.ble (j + (uu.cells.map FV.val).length) cs.length = true:=bleT (by omega)
         have hw : (uu.cells.map FV.val).all FV.whole = true:=by simp [FV.whole]
         simp only [storeAt,hb1,hw,notOn,Bool.and_self,List.all_nil]
         exact ⟨rfl,by simp [ok]⟩
       · exact (Q.holds_no hr).elim
     · exact (Q.holds_no hr).elim
   · rename_i x1 x2 s j s' cs
     split at hr
     · obtain ⟨⟨new,es⟩,hc,hr'⟩:=Q.holds_withA hr
       cases ha.slot rfl
       obtain ⟨hg,_⟩:=ha.home
       obtain ⟨b,hb,rfl⟩:=ha.rep.2 _ hg
       obtain ⟨hl,hcr⟩:=asCells_rep h hv hc
       obtain ⟨blk',β,h1,h2,h3⟩:=hcr.loose h
       exact store_at hs (.inr rfl) (fun _ => rfl) hg hb h1 h2 h3 hl hr'
     · exact (Q.holds_no hr).elim
   · rename_i x1 x2 s c i off s' o
     cases ha.slot rfl
     obtain ⟨hg,_⟩:=ha.home
     split at hr
     · rename_i sh0 xs sp uu hx hvs
       split at hr
       · rename_i hu
         obtain ⟨hi,hr'⟩:=Q.holds_need hr
         obtain ⟨z,b,hp,hb,rfl⟩:=ha.rep.2 _ _ _ _ hg hx
         obtain ⟨e1,e2⟩:=hr'
         dsimp only at e1 e2
         split at e1
         · rename_i x' hx'
           split at e1
           · rename_i o' ho'
             cases e1
             exact store_elem h hs hg hx hp hb (hv.val hvs) hu (by rw [Nat.blt_eq] at hi;exact hi) ⟨hx',e2⟩ ho'
           · cases e1
         · cases e1
       · exact (Q.holds_no hr).elim
     · exact (Q.holds_no hr).elim
   · exact (Q.holds_no hr).elim
end
end Go.Ev

namespace Go.Ev
section
variable {P : Program} {w : World} {Oc : Nat → Prop} {st : Slots} {tm : Nat → Value} {blk : Blk} {r : List Edit × SV}
structure Src (P : Program) (w : World) (sz : Nat) (u : TypeId) (x : Value) (m : Nat) (news : List Value) : Prop where
 ty : ∃ d,P.underlying u = some d ∧ ∀ k,d ≠ .int k
 len : ∀ w1,(Builtin.lenOf x).run P w1 = .ok m w1
 cells : ∀ w1 : World,w1.heap = w.heap → (Builtin.firstCells sz m x).run P w1 = .ok news.toArray w1
 size : news.length = m * sz
 one : ∀ v ∈ news,v.oneCell' = true
theorem append_in {t u ty e : TypeId} (hu : P.underlying t = some (.slice e)) {ie : TypeInfo} (hi : P.info? e = some ie) {A : Option Addr} {n c : Nat} {x : Value} {m : Nat} {news : List Value} (hs : Src P w ie.size u x m news) (hroom : n + m ≤ c) :
 (Builtin.append_ #[t,u] ty #[.slice A n c,x]).run P w = ((match A with | some a => storeCells (a.add (n * ie.size)) news | none => (pure () : Sem Unit)).run P w).andThen fun _ w' => .ok (.slice A (n + m) c) w':=by
 obtain ⟨d,hd,hni⟩:=hs.ty
 have hl:=hs.len w
 have hf:=hs.cells w rfl
 unfold Builtin.append_
 simp only [List.getElem?_toArray,List.getElem?_cons_zero,List.getElem?_cons_succ,Sem.run_bind,run_underlying' hu,run_underlying' hd,Result.andThen_ok,run_sizeOf' hi,Sem.run_pure,hl,Bool.false_eq_true,if_false,hroom,if_true,hf,Bool.not_false]
 cases A <;> simp
theorem append_more {t u ty e : TypeId} (hu : P.underlying t = some (.slice e)) {ie : TypeInfo} (hi : P.info? e = some ie) {z : Value} (hz : ie.zero = some z) {A : Option Addr} {n c : Nat} {x : Value} {m : Nat} {olds news : List Value} (hs : Src P w ie.size u x m news) (hroom : ¬ n + m ≤ c)
 (h63 : n + m ≤ 9223372036854775807) (hfit : (n + m) * ie.bytes ≤ 140737488355328) (hold : ∀ w1 : World,w1.heap = w.heap → (Builtin.firstCells ie.size n (.slice A n c)).run P w1 = .ok olds.toArray w1) :
 ∃ cap,n + m ≤ cap ∧ cap ≤ 9223372036854775807 ∧ (Builtin.append_ #[t,u] ty #[.slice A n c,x]).run P w = .ok (.slice (some ⟨w.heap.size,0,none⟩) (n + m) cap) (w.drew.alloc (.cells (olds.toArray ++ news.toArray ++ Builtin.zeroCells z.cells (cap - (n + m))) e)):=by
 obtain ⟨d,hd,hni⟩:=hs.ty
 have hl:=hs.len w
 have hf:=hs.cells w.drew rfl
 have hfo:=hold w.drew rfl
 have h63' : ¬ (9223372036854775807 < ((n : Int) + (m : Int))):=by omega
 have hg:=growslice_fits (need:=n + m) (old:=c) (bytes:=ie.bytes) (by omega) hfit
 have h48' : ¬ (281474976710656 < Builtin.nextslicecap (n + m) c * ie.bytes):=by omega
 refine ⟨grownCap w (n + m) c e,grownCap_ge _ _ _ _,cap63 _ _ _ _ (by omega),?_⟩
 simp [Builtin.append_,run_underlying' hu,run_underlying' hd,run_sizeOf' hi,typeInfo,hi,hl,hroom,h63',h48',Question.forced,zeroValue,hz,newRow,hf,hfo,grownCap]
 congr 2
 apply Array.ext'
 simp [List.append_assoc]
structure RowSrc (w : World) (O : Nat → Prop) (sh : Option Nat) (ys : List PV) (news : List Value) : Prop where
 fits : ∀ (i : Nat) (x : PV),ys[i]? = some x → pvFits sh x = true
 cell : ∀ (i : Nat) (x : PV) (j : Nat) (y : PV),ys[i]? = some x → x.cells[j]? = some y → isCell y = true
 rep : ∀ (i : Nat) (x : PV) (j : Nat) (y : PV),ys[i]? = some x → x.cells[j]? = some y → ∃ z,news[i * shN sh + j]? = some z ∧ RepV w O y z
 len : news.length = ys.length * shN sh
theorem RowSrc.move {O O' : Nat → Prop} {sh : Option Nat} {ys : List PV} {news : List Value} (h : RowSrc w O sh ys news) (hO : ∀ k,O' k → O k) : RowSrc w O' sh ys news :=
 ⟨h.fits,h.cell,fun i x j y a b => by obtain ⟨z,z1,z2⟩:=h.rep i x j y a b;exact ⟨z,z1,z2.move fun k _ hno => ⟨rfl,fun q => hno (hO k q)⟩⟩,h.len⟩
theorem RowIn.append {w' : World} {O O' : Nat → Prop} {sh : Option Nat} {xs ys : List PV} {vs : Array Value} {olds news : List Value}
 (hx : RowSrc w O sh xs olds) (hy : RowSrc w O sh ys news) (hm : ∀ k,k < w.heap.size → ¬ O k → w'.heap[k]? = w.heap[k]? ∧ ¬ O' k) (hv : ∀ q,q < (xs.length + ys.length) * shN sh → vs[q]? = (olds ++ news)[q]?) :
 RowIn w' O' sh (xs ++ ys) vs:=by
 have hget : ∀ (i : Nat) (x : PV),(xs ++ ys)[i]? = some x → (i < xs.length ∧ xs[i]? = some x) ∨ ∃ i',i = xs.length + i' ∧ ys[i']? = some x:=by
  intro i x hi
  by_cases h : i < xs.length
  · rw [List.getElem?_append_left h] at hi;exact .inl ⟨h,hi⟩
  · rw [List.getElem?_append_right (by omega)] at hi;exact .inr ⟨i - xs.length,by omega,hi⟩
 refine ⟨fun i x hi => ?_,fun i x j y hi hj => ?_,fun i x j y hi hj => ?_⟩
 all_goals rcases hget i x hi with ⟨h1,h2⟩ | ⟨i',rfl,h2⟩
 · exact hx.fits _ _ h2
 · exact hy.fits _ _ h2
 · exact hx.cell _ _ _ _ h2 hj
 · exact hy.cell _ _ _ _ h2 hj
 · obtain ⟨z,z1,z2⟩:=hx.rep _ _ _ _ h2 hj
   have hlt:=(List.getElem?_eq_some_iff.1 z1).1
   refine ⟨z,?_,z2.move hm⟩
   rw [hv _ (by rw [Nat.add_mul,← hx.len];omega),List.getElem?_append_left hlt]
   exact z1
 · obtain ⟨z,z1,z2⟩:=hy.rep _ _ _ _ h2 hj
   have hlt:=(List.getElem?_eq_some_iff.1 z1).1
   have e1 : (xs.length + i') * shN sh + j = olds.length + (i' * shN sh + j):=by rw [hx.len,Nat.add_mul,Nat.add_assoc]
   refine ⟨z,?_,z2.move hm⟩
   rw [e1,hv _ (by rw [Nat.add_mul,← hx.len,← hy.len];omega),List.getElem?_append_right (by omega)]
   simpa using z1
theorem append_own {t u ty e : TypeId} (hu : P.underlying t = some (.slice e)) {ie : TypeInfo} (hi : P.info? e = some ie) {z : Value} (hz : ie.zero = some z) {sh : Option Nat} (hsz : ie.size = shN sh) (hzs : z.cells.size = shN sh)
 {pb : Option Nat} (hbase : SRel w (fun k => Oc k ∨ pb = some k) st tm blk) (hOc : ∀ k,Oc k → k < w.heap.size) (hpb : ∀ k,pb = some k → ¬ Oc k ∧ k < w.heap.size) {xs sp : List PV} {a : Value} (hf : FRep w (blk.off fun k => Oc k ∨ pb = some k) (.own sh xs sp) a pb)
 {ys : List PV} {news : List Value} {x : Value} (hs : Src P w (shN sh) u x ys.length news) (hy : RowSrc w (blk.off fun k => Oc k ∨ pb = some k) sh ys news)
 (h63 : xs.length + ys.length ≤ 9223372036854775807) (hfit : (xs.length + ys.length) * ie.bytes ≤ 140737488355328) :
 ∃ v' w' pb',(Builtin.append_ #[t,u] ty #[a,x]).run P w = .ok v' w' ∧ w'.os = w.os ∧ w'.tape = w.tape ∧ w'.output = w.output ∧ w.heap.size ≤ w'.heap.size ∧ (∀ k,k < w.heap.size → pb ≠ some k → w'.heap[k]? = w.heap[k]?) ∧
  Pend w' Oc st tm blk (.home (.flat (.own sh (xs ++ ys) []))) v' pb' ∧ (∀ c k,pb' c = some k → pb = some k ∨ w.heap.size ≤ k):=by
 have hdrop : SRel w Oc st tm blk:=hbase.world (Nat.le_refl _) (fun _ _ _ => rfl) (fun _ _ x => .inl x)
 have hs' : Src P w ie.size u x ys.length news:=by rw [hsz];exact hs
 have hoff : ∀ k,(blk.off Oc) k → (blk.off fun k => Oc k ∨ pb = some k) k:=by
  rintro k (x | x)
  · exact .inl x
  · exact .inr (.inl x)
 have grow : ∀ (A : Option Addr) (c : Nat) (olds : List Value),a = .slice A xs.length c → ¬ xs.length + ys.length ≤ c → RowSrc w (blk.off fun k => Oc k ∨ pb = some k) sh xs olds →
  (∀ w1 : World,w1.heap = w.heap → (Builtin.firstCells ie.size xs.length (.slice A xs.length c)).run P w1 = .ok olds.toArray w1) →
  ∃ v' w' pb',(Builtin.append_ #[t,u] ty #[a,x]).run P w = .ok v' w' ∧ w'.os = w.os ∧ w'.tape = w.tape ∧ w'.output = w.output ∧ w.heap.size ≤ w'.heap.size ∧ (∀ k,k < w.heap.size → pb ≠ some k → w'.heap[k]? = w.heap[k]?) ∧
   Pend w' Oc st tm blk (.home (.flat (.own sh (xs ++ ys) []))) v' pb' ∧ (∀ c k,pb' c = some k → pb = some k ∨ w.heap.size ≤ k):=by
  intro A c olds ha hroom hx hold
  subst ha
  obtain ⟨cap,hcap,hcapL,hrun⟩:=append_more (ty:=ty) hu hi hz hs' hroom h63 hfit hold
  have hol : olds.length = xs.length * shN sh:=hx.len
  have hnl : news.length = ys.length * shN sh:=hy.len
  have hsize : (olds.toArray ++ news.toArray ++ Builtin.zeroCells z.cells (cap - (xs.length + ys.length))).size = cap * shN sh:=by
   simp only [Array.size_append,List.size_toArray,size_zeroCells,hzs,hol,hnl,← Nat.add_mul]
   congr 1;omega
  have hrow : RowIn w (blk.off Oc) sh (xs ++ ys) (olds.toArray ++ news.toArray ++ Builtin.zeroCells z.cells (cap - (xs.length + ys.length))):=by
   refine RowIn.append hx hy (fun k _ hno => ⟨rfl,fun q => hno (hoff k q)⟩) fun q hq => ?_
   rw [Nat.add_mul,← hol,← hnl] at hq
   rw [Array.getElem?_append_left (by simpa using hq),← Array.getElem?_toList]
   simp
  have hp:=fresh_own hdrop hOc (w':=w.drew) rfl (c:=cap) (e:=e) (fr:=(0,0)) (thawed0 _) (Nat.le_of_eq hsize.symm) (by simpa using hcap) hcapL hrow
  rw [List.length_append] at hp
  exact ⟨_,_,_,hrun,rfl,rfl,rfl,by rw [World.size_alloc,World.size_drew];omega,fun k hk _ => heap_old w.drew _ hk,hp,fun c k hk => .inr (by rw [newBlk_none hk];exact Nat.le_refl _)⟩
 cases hf with
 | ownE _ A =>
   by_cases hy0 : ys = []
   · subst hy0
     have hn : news = []:=List.eq_nil_of_length_eq_zero (by simpa using hy.len)
     subst hn
     have hrun:=append_in (P:=P) (w:=w) (ty:=ty) hu hi (A:=A) (n:=0) (c:=0) hs' (by simp)
     refine ⟨.slice A 0 0,w,fun _ => none,?_,rfl,rfl,rfl,Nat.le_refl _,fun _ _ _ => rfl,quiet_pend hdrop (.flat _ _ _ (.ownE _ _)),by simp⟩
     rw [hrun]
     cases A <;> simp [storeCells]
   · refine grow A 0 [] rfl (by simpa using hy0) ⟨by simp,by simp,by simp,by simp⟩ fun w1 _ => ?_
     cases A <;> simp [Builtin.firstCells,Go.loadCells,Go.loadCellsFrom]
 | own _ _ _ b c cur ty' fr us how =>
   have hpbs:=hpb b rfl
   have htake : (cur.toList.take (xs.length * shN sh)).length = xs.length * shN sh:=by
    have:=Nat.le_trans (Nat.mul_le_mul_right (shN sh) how.len) how.size
    simp;omega
   have hx : RowSrc w (blk.off fun k => Oc k ∨ some b = some k) sh xs (cur.toList.take (xs.length * shN sh)):=by
    refine ⟨how.fits,how.cell,fun i x j y h1 h2 => ⟨us i j,?_,how.rep _ _ _ _ h1 h2⟩,htake⟩
    have hjlt : j < shN sh:=by rw [← cells_length (how.fits _ _ h1)];exact (List.getElem?_eq_some_iff.1 h2).1
    have hil : i < xs.length:=(List.getElem?_eq_some_iff.1 h1).1
    have:=Nat.mul_le_mul_right (shN sh) (show i + 1 ≤ xs.length by omega)
    rw [Nat.add_mul,Nat.one_mul] at this
    rw [List.getElem?_take,if_pos (by omega)]
    simpa using how.at_ _ _ _ _ h1 h2
   by_cases hroom : xs.length + ys.length ≤ c
   · have hrun:=append_in (P:=P) (w:=w) (ty:=ty) hu hi (A:=some ⟨b,0,none⟩) (n:=xs.length) (c:=c) hs' hroom
     have hmul:=Nat.le_trans (Nat.mul_le_mul_right (shN sh) hroom) how.size
     rw [Nat.add_mul,← hy.len] at hmul
     have hst:=run_storeCells_thawed (P:=P) b (xs.length * shN sh) ty' fr news 0 cur w how.heap how.thaw (by simpa using hmul) hs.one
     simp only [Nat.add_zero] at hst
     dsimp only at hrun
     rw [hsz,addr_add,Nat.zero_add,hst] at hrun
     dsimp only [Result.andThen] at hrun
     let cur':=(cur.toList.take (xs.length * shN sh) ++ news ++ cur.toList.drop (xs.length * shN sh + news.length)).toArray
     have hcs' : cur'.size = cur.size:=by
      simp only [cur',List.size_toArray]
      rw [splice_len _ _ _ (by simpa using hmul)]
      simp
     have hwo : ∀ k,k ≠ b → (w.setRow b cur').heap[k]? = w.heap[k]?:=fun k hk => setRow_other w b k cur' hk
     have hwsize : (w.setRow b cur').heap.size = w.heap.size:=by simp [World.setRow]
     have hmv : ∀ k,k < w.heap.size → ¬ (blk.off fun k => Oc k ∨ some b = some k) k → (w.setRow b cur').heap[k]? = w.heap[k]? ∧ ¬ (blk.off fun k => Oc k ∨ some b = some k) k:=fun k _ hno => ⟨hwo k fun e => hno (.inr (.inr (by rw [e]))),hno⟩
     have hrow : RowIn (w.setRow b cur') (blk.off fun k => Oc k ∨ some b = some k) sh (xs ++ ys) cur':=by
      refine RowIn.append hx hy hmv fun q hq => ?_
      rw [Nat.add_mul,← hy.len] at hq
      simp only [cur',List.getElem?_toArray]
      rw [List.getElem?_append_left (by rw [List.length_append,htake];omega)]
     have hnew:=hrow.own (b:=b) (c:=c) (setRow_heap w b cur cur' ty' fr how.heap) (how.thaw.size (by omega)) (by rw [hcs'];exact how.size) (by simpa using hroom) how.capL
     rw [List.length_append] at hnew
     let pb' : Option Nat → Option Nat:=newBlk b (fun _ => none)
     have hpb' : ∀ c k,pb' c = some k → k = b:=fun c k hk => newBlk_none hk
     have hOe : ∀ k,(Oc k ∨ ∃ c,pb' c = some k) → (Oc k ∨ some b = some k):=by
      rintro k (x | ⟨c,x⟩)
      · exact .inl x
      · exact .inr (by rw [hpb' c k x])
     refine ⟨_,_,pb',hrun,rfl,rfl,rfl,by rw [hwsize];exact Nat.le_refl _,fun k _ hk => hwo k fun e => hk (by rw [e]),⟨?_,?_,fun c k hk => ?_,?_⟩,fun c k hk => .inl (by rw [hpb' c k hk])⟩
     · exact hbase.world (by rw [hwsize];exact Nat.le_refl _) (fun k _ hno => hwo k fun e => hno (.inr (by rw [e]))) (fun k _ hk => hOe k hk)
     · intro c c' k h1 h2
       cases c with
       | none => cases c' with
         | none => rfl
         | some j => exact absurd h2 (by simp [pb',newBlk])
       | some j => exact absurd h1 (by simp [pb',newBlk])
     · rw [hpb' c k hk]
       exact ⟨hpbs.1,by rw [hwsize];exact hpbs.2⟩
     · refine .flat _ _ _ (hnew.move ⟨fun k _ hno => ⟨rfl,fun q => hno ?_⟩,fun _ _ => rfl⟩)
       rcases q with q | q
       · exact .inl q
       · exact .inr (hOe k q)
   · refine grow (some ⟨b,0,none⟩) c _ rfl hroom hx fun w1 hw1 => ?_
     refine run_firstCells_some w1 _ _ _ _ _ _ (by rw [htake,hsz]) fun j v hj => ?_
     rw [addr_add,Nat.zero_add]
     have : w1.heap[b]? = some (.cells cur ty' fr):=by rw [hw1];exact how.heap
     rw [cell_at this]
     rw [List.getElem?_take] at hj
     split at hj
     · simpa using hj
     · cases hj
structure NestIn (w : World) (O : Nat → Prop) (cs : List FV) (vs : List Value) (β : Nat → Option Nat) : Prop where
 ok : ∀ (j : Nat) (f : FV),cs[j]? = some f → f.cellOk
 whole : ∀ (j : Nat) (f : FV),cs[j]? = some f → f.whole = true
 rep : ∀ (j : Nat) (f : FV),cs[j]? = some f → ∃ z,vs[j]? = some z ∧ FRep w O f z (β j)
 none_ : ∀ j,cs.length ≤ j → β j = none
 len : vs.length = cs.length
theorem NestIn.home {w' : World} {O O' : Nat → Prop} {cs : List FV} {vs : List Value} {β : Nat → Option Nat} (h : NestIn w O cs vs β) (hm : ∀ k,k < w.heap.size → ¬ O k → w'.heap[k]? = w.heap[k]? ∧ ¬ O' k) (hβ : ∀ j k,β j = some k → w'.heap[k]? = w.heap[k]?)
 {b c : Nat} {cur : Array Value} {e : TypeId} {fr : Nat × Nat} (hb : w'.heap[b]? = some (.cells cur e fr)) (ht : Thawed cur fr) (hs : cur.size = c) (hc : cs.length ≤ c) (hv : ∀ q,q < cs.length → cur[q]? = vs[q]?) :
 ORep w' O' (.cont .nest cs) (.slice (some ⟨b,0,none⟩) cs.length c) (some b) β := by
 refine .nest cs b c cur e fr β hb ht hs hc h.ok h.whole ⟨fun j f hj => ?_,h.none_⟩
 obtain ⟨z,z1,z2⟩:=h.rep j f hj
 refine ⟨z,?_,z2.move ⟨hm,fun k hk => hβ j k hk⟩⟩
 rw [hv j (List.getElem?_eq_some_iff.1 hj).1]
 exact z1
theorem append_nest {t u ty e : TypeId} (hu : P.underlying t = some (.slice e)) {ie : TypeInfo} (hi : P.info? e = some ie) {z : Value} (hz : ie.zero = some z) (hsz : ie.size = 1) (hzs : z.cells.size = 1)
 {mb : Option Nat} {β : Nat → Option Nat} (hbase : SRel w (fun k => Oc k ∨ mb = some k ∨ ∃ j,β j = some k) st tm blk) (hOc : ∀ k,Oc k → k < w.heap.size) (hmb : ∀ k,mb = some k → ¬ Oc k ∧ k < w.heap.size ∧ ∀ j,β j ≠ some k)
 (hβ : ∀ j k,β j = some k → ¬ Oc k ∧ k < w.heap.size) (hinj : ∀ j j' k,β j = some k → β j' = some k → j = j') {cs ds : List FV} {olds news : List Value}
 (hN : NestIn w (blk.off fun k => Oc k ∨ mb = some k ∨ ∃ j,β j = some k) (cs ++ ds) (olds ++ news) β) (hol : olds.length = cs.length) {a : Value}
 (ha : (mb = none ∧ cs = [] ∧ ∃ A,a = .slice A 0 0) ∨ ∃ b c cur ty' fr,mb = some b ∧ a = .slice (some ⟨b,0,none⟩) cs.length c ∧ w.heap[b]? = some (.cells cur ty' fr) ∧ Thawed cur fr ∧ cur.size = c ∧ cs.length ≤ c ∧ olds = cur.toList.take cs.length)
 {x : Value} (hs : Src P w 1 u x ds.length news) (h63 : cs.length + ds.length ≤ 9223372036854775807) (hfit : (cs.length + ds.length) * ie.bytes ≤ 140737488355328) :
 ∃ v' w' pb',(Builtin.append_ #[t,u] ty #[a,x]).run P w = .ok v' w' ∧ w'.os = w.os ∧ w'.tape = w.tape ∧ w'.output = w.output ∧ w.heap.size ≤ w'.heap.size ∧ (∀ k,k < w.heap.size → mb ≠ some k → w'.heap[k]? = w.heap[k]?) ∧
  Pend w' Oc st tm blk (.home (.cont .nest (cs ++ ds))) v' pb' ∧ (∀ c k,pb' c = some k → mb = some k ∨ (∃ j,β j = some k) ∨ w.heap.size ≤ k):=by
 have hs' : Src P w ie.size u x ds.length news:=by rw [hsz];exact hs
 have hnl : news.length = ds.length:=by simpa using hs.size
 have fin : ∀ (w' : World) (b c : Nat) (cur : Array Value) (ty' : TypeId) (fr : Nat × Nat),(∀ k,k < w.heap.size → mb ≠ some k → w'.heap[k]? = w.heap[k]?) → w.heap.size ≤ w'.heap.size → w'.heap[b]? = some (.cells cur ty' fr) → Thawed cur fr → cur.size = c →
  cs.length + ds.length ≤ c → (∀ q,q < cs.length + ds.length → cur[q]? = (olds ++ news)[q]?) → (mb = some b ∨ w.heap.size ≤ b) → b < w'.heap.size →
  Pend w' Oc st tm blk (.home (.cont .nest (cs ++ ds))) (.slice (some ⟨b,0,none⟩) (cs.length + ds.length) c) (newBlk b β) ∧ (∀ c k,newBlk b β c = some k → mb = some k ∨ (∃ j,β j = some k) ∨ w.heap.size ≤ k):=by
  intro w' b c cur ty' fr hw hsize hb ht hcs hcl hv hbb hblt
  have hbβ : ∀ j,β j ≠ some b:=by
   intro j hj
   rcases hbb with hbb | hbb
   · exact (hmb b hbb).2.2 j hj
   · have:=(hβ j b hj).2;omega
  have hO : ∀ k,k < w.heap.size → (Oc k ∨ ∃ c,newBlk b β c = some k) → (Oc k ∨ mb = some k ∨ ∃ j,β j = some k):=by
   rintro k hk (q | ⟨c,q⟩)
   · exact .inl q
   · cases c with
     | none =>
       simp only [newBlk,Option.some.injEq] at q
       subst q
       rcases hbb with hbb | hbb
       · exact .inr (.inl hbb)
       · omega
     | some j => exact .inr (.inr ⟨j,q⟩)
  refine ⟨⟨?_,fun c c' k h1 h2 => ?_,fun c k hk => ?_,?_⟩,fun c k hk => ?_⟩
  · exact hbase.world hsize (fun k hk hno => hw k hk fun e => hno (.inr (.inl e))) hO
  · cases c with
    | none => cases c' with
      | none => rfl
      | some j => simp only [newBlk,Option.some.injEq] at h1;subst h1;exact absurd h2 (hbβ j)
    | some j => cases c' with
      | none => simp only [newBlk,Option.some.injEq] at h2;subst h2;exact absurd h1 (hbβ j)
      | some j' => rw [hinj _ _ _ h1 h2]
  · cases c with
    | none =>
      simp only [newBlk,Option.some.injEq] at hk
      subst hk
      refine ⟨fun q => ?_,hblt⟩
      rcases hbb with hbb | hbb
      · exact (hmb _ hbb).1 q
      · have:=hOc _ q;omega
    | some j => exact ⟨(hβ j k hk).1,Nat.lt_of_lt_of_le (hβ j k hk).2 hsize⟩
  · have:=hN.home (w':=w') (O':=blk.off fun k => Oc k ∨ ∃ c,newBlk b β c = some k) (fun k hk hno => ⟨hw k hk fun e => hno (.inr (.inr (.inl e))),fun q => hno ?_⟩) (fun j k hk => hw k (hβ j k hk).2 fun e => (hmb k e).2.2 j hk) hb ht hcs (by simpa using hcl) (fun q hq => hv q (by simpa using hq))
    · rw [List.length_append] at this
      exact this
    · rcases q with q | q
      · exact .inl q
      · exact .inr (hO k hk q)
  · cases c with
    | none =>
      simp only [newBlk,Option.some.injEq] at hk
      subst hk
      rcases hbb with hbb | hbb
      · exact .inl hbb
      · exact .inr (.inr hbb)
    | some j => exact .inr (.inl ⟨j,hk⟩)
 have grow : ∀ (A : Option Addr) (c : Nat),a = .slice A cs.length c → ¬ cs.length + ds.length ≤ c → (∀ w1 : World,w1.heap = w.heap → (Builtin.firstCells ie.size cs.length (.slice A cs.length c)).run P w1 = .ok olds.toArray w1) →
  ∃ v' w' pb',(Builtin.append_ #[t,u] ty #[a,x]).run P w = .ok v' w' ∧ w'.os = w.os ∧ w'.tape = w.tape ∧ w'.output = w.output ∧ w.heap.size ≤ w'.heap.size ∧ (∀ k,k < w.heap.size → mb ≠ some k → w'.heap[k]? = w.heap[k]?) ∧
   Pend w' Oc st tm blk (.home (.cont .nest (cs ++ ds))) v' pb' ∧ (∀ c k,pb' c = some k → mb = some k ∨ (∃ j,β j = some k) ∨ w.heap.size ≤ k):=by
  intro A c ha' hroom hold
  subst ha'
  obtain ⟨cap,hcap,_,hrun⟩:=append_more (ty:=ty) hu hi hz hs' hroom h63 hfit hold
  have hsize : (olds.toArray ++ news.toArray ++ Builtin.zeroCells z.cells (cap - (cs.length + ds.length))).size = cap:=by
   simp only [Array.size_append,List.size_toArray,size_zeroCells,hzs,hol,hnl]
   omega
  obtain ⟨f1,f2⟩:=fin (w.drew.alloc (.cells (olds.toArray ++ news.toArray ++ Builtin.zeroCells z.cells (cap - (cs.length + ds.length))) e)) w.heap.size cap _ e (0,0) (fun k hk _ => heap_old w.drew _ hk) (by rw [World.size_alloc,World.size_drew];omega)
   (heap_new w.drew _) (thawed0 _) hsize hcap (fun q hq => by
     rw [Array.getElem?_append_left (by simp [hol,hnl];omega),← Array.getElem?_toList]
     simp) (.inr (Nat.le_refl _)) (by rw [World.size_alloc,World.size_drew];omega)
  exact ⟨_,_,_,hrun,rfl,rfl,rfl,by rw [World.size_alloc,World.size_drew];omega,fun k hk _ => heap_old w.drew _ hk,f1,f2⟩
 rcases ha with ⟨hm0,hcs0,A,rfl⟩ | ⟨b,c,cur,ty',fr,hm1,rfl,hheap,hth,hsize,hcl,hold⟩
 · subst hcs0
   have ho0 : olds = []:=List.eq_nil_of_length_eq_zero (by simpa using hol)
   subst ho0
   by_cases hd0 : ds = []
   · subst hd0
     have hn : news = []:=List.eq_nil_of_length_eq_zero (by simpa using hnl)
     subst hn
     have hrun:=append_in (P:=P) (w:=w) (ty:=ty) hu hi (A:=A) (n:=0) (c:=0) hs' (by simp)
     refine ⟨.slice A 0 0,w,fun _ => none,?_,rfl,rfl,rfl,Nat.le_refl _,fun _ _ _ => rfl,quiet_pend (hbase.world (Nat.le_refl _) (fun _ _ _ => rfl) (fun _ _ x => .inl x)) (.nestE _),by simp⟩
     rw [hrun]
     cases A <;> simp [storeCells]
   · refine grow A 0 rfl (by simpa using hd0) fun w1 _ => ?_
     cases A <;> simp [Builtin.firstCells,Go.loadCells,Go.loadCellsFrom]
 · by_cases hroom : cs.length + ds.length ≤ c
   · have hrun:=append_in (P:=P) (w:=w) (ty:=ty) hu hi (A:=some ⟨b,0,none⟩) (n:=cs.length) (c:=c) hs' hroom
     have hst:=run_storeCells_thawed (P:=P) b cs.length ty' fr news 0 cur w hheap hth (by omega) hs.one
     simp only [Nat.add_zero] at hst
     dsimp only at hrun
     rw [hsz,Nat.mul_one,addr_add,Nat.zero_add,hst] at hrun
     dsimp only [Result.andThen] at hrun
     let cur':=(cur.toList.take cs.length ++ news ++ cur.toList.drop (cs.length + news.length)).toArray
     have hcs' : cur'.size = cur.size:=by
      simp only [cur',List.size_toArray]
      rw [splice_len _ _ _ (by simp;omega)]
      simp
     have hwo : ∀ k,k ≠ b → (w.setRow b cur').heap[k]? = w.heap[k]?:=fun k hk => setRow_other w b k cur' hk
     have hwsize : (w.setRow b cur').heap.size = w.heap.size:=by simp [World.setRow]
     obtain ⟨f1,f2⟩:=fin (w.setRow b cur') b c cur' ty' fr (fun k hk hne => hwo k fun e => hne (by rw [e];exact hm1)) (by rw [hwsize];exact Nat.le_refl _) (setRow_heap w b cur cur' ty' fr hheap) (hth.size (by omega)) (by omega) hroom
      (fun q hq => by
        simp only [cur',List.getElem?_toArray]
        rw [List.getElem?_append_left (by simp;omega),hold]) (.inl hm1) (by rw [hwsize];exact (hmb b hm1).2.1)
     exact ⟨_,_,_,hrun,rfl,rfl,rfl,by rw [hwsize];exact Nat.le_refl _,fun k hk hne => hwo k fun e => hne (by rw [e];exact hm1),f1,f2⟩
   · refine grow (some ⟨b,0,none⟩) c rfl hroom fun w1 hw1 => ?_
     refine run_firstCells_some w1 _ _ _ _ _ _ (by rw [hol,hsz,Nat.mul_one]) fun j v hj => ?_
     rw [addr_add,Nat.zero_add]
     have : w1.heap[b]? = some (.cells cur ty' fr):=by rw [hw1];exact hheap
     rw [cell_at this]
     rw [hold,List.getElem?_take] at hj
     split at hj
     · simpa using hj
     · cases hj
end
end Go.Ev

namespace Go.Ev
section
variable {P : Program} {w : World} {Oc : Nat → Prop} {st : Slots} {tm : Nat → Value} {blk : Blk} {r : List Edit × SV}
structure RowMem (w : World) (O : Nat → Prop) (sh : Option Nat) (ys : List PV) (x : Value) : Prop where
 ex : ∃ A c,x = .slice A ys.length c ∧ (A = none → ys = []) ∧ (∀ (i : Nat) (x : PV),ys[i]? = some x → pvFits sh x = true) ∧
  ∀ (i : Nat) (x : PV) (j : Nat) (y : PV),ys[i]? = some x → x.cells[j]? = some y → isCell y = true ∧ ∃ a z,A = some a ∧ w.cell? (a.add (i * shN sh + j)) = some z ∧ RepV w O y z
theorem RepV.mem {O : Nat → Prop} {sh : Option Nat} {ys : List PV} {x : Value} (h : RepV w O (.sl sh ys) x) : RowMem w O sh ys x:=by
 cases h with
 | slNil => exact ⟨none,0,rfl,fun _ => rfl,by simp,by simp⟩
 | sl _ _ a c us hc hf hk ho hm hr => exact ⟨some a,c,rfl,by simp,hf,fun i x j y h1 h2 => ⟨hk _ _ _ _ h1 h2,a,_,rfl,hm _ _ _ _ h1 h2,hr _ _ _ _ h1 h2⟩⟩
theorem FRep.mem {O : Nat → Prop} {f : FV} {x : Value} {m : Option Nat} {sh : Option Nat} {ys : List PV} (h : FRep w O f x m) (hr : (OV.flat f).row = some (sh,ys)) : RowMem w O sh ys x:=by
 cases h with
 | val v u h =>
   cases v with
   | sl sh' xs =>
     simp only [OV.row,Option.some.injEq,Prod.mk.injEq] at hr
     obtain ⟨rfl,rfl⟩:=hr
     exact h.mem
   | _ => simp [OV.row] at hr
 | nil sh' =>
   simp only [OV.row,Option.some.injEq,Prod.mk.injEq] at hr
   obtain ⟨rfl,rfl⟩:=hr
   exact ⟨none,0,rfl,fun _ => rfl,by simp,by simp⟩
 | ownE sh' A =>
   simp only [OV.row,Option.some.injEq,Prod.mk.injEq] at hr
   obtain ⟨rfl,rfl⟩:=hr
   exact ⟨A,0,rfl,fun _ => rfl,by simp,by simp⟩
 | own sh' xs sp b c cur e fr us h =>
   simp only [OV.row,Option.some.injEq,Prod.mk.injEq] at hr
   obtain ⟨rfl,rfl⟩:=hr
   refine ⟨some ⟨b,0,none⟩,c,rfl,by simp,h.fits,fun i x j y h1 h2 => ⟨h.cell _ _ _ _ h1 h2,_,us i j,rfl,?_,h.rep _ _ _ _ h1 h2⟩⟩
   rw [addr_add,Nat.zero_add,cell_at h.heap]
   exact h.at_ _ _ _ _ h1 h2
 | gone => simp [OV.row] at hr
theorem arg_mem (h : SRel w Oc st tm blk) {a : Arg} {u : Value} {sh : Option Nat} {ys : List PV} (ha : ArgRep w (blk.off Oc) st tm a u) (hr : a.row = some (sh,ys)) (hno : ∀ cs,a.ov ≠ some (.cont .nest cs)) : RowMem w (blk.off Oc) sh ys u:=by
 obtain ⟨sv,rt⟩:=a
 cases sv with
 | home o =>
   have hr : o.row = some (sh,ys):=hr
   cases o with
   | flat f => exact (ORep.flat_inv (show ORep w (blk.off Oc) (.flat f) u none (fun _ => none) from ha.rep)).1.mem hr
   | tn => simp [OV.row] at hr
   | cont k cs => cases k <;> first | exact absurd rfl (hno cs) | simp [OV.row] at hr
 | ref s c =>
   obtain ⟨o,ho⟩:=ha.some_ s rfl
   dsimp only at ho
   subst ho
   obtain ⟨hg,_⟩:=ha.home
   have hrep:=h.rep s
   rw [hg] at hrep
   obtain ⟨⟨x,hx⟩,hp⟩:=ha.rep.2 o hg
   simp only [Arg.row,hx] at hr
   obtain ⟨m,β,h1,_⟩:=place_rep (b:=blk s) hrep hx hp
   cases x with
   | flat f => exact h1.flat_inv.1.mem hr
   | tn => simp [OV.row] at hr
   | cont k cs => cases k <;> first | exact absurd hx (hno cs) | simp [OV.row] at hr
 | view s c l e =>
   obtain ⟨o,ho⟩:=ha.some_ s rfl
   dsimp only at ho
   subst ho
   obtain ⟨hg,_⟩:=ha.home
   simp only [Arg.row] at hr
   split at hr
   · rename_i sh' xs sp hx
     simp only [Option.some.injEq,Prod.mk.injEq] at hr
     obtain ⟨rfl,rfl⟩:=hr
     obtain ⟨v1,v2,x,hp,hv⟩:=ha.rep.2 _ _ _ _ hg hx
     have hlen : ((xs.drop l).take (e - l)).length = e - l:=by simp;omega
     have hidx : ∀ (i : Nat) (y : PV),((xs.drop l).take (e - l))[i]? = some y → xs[l + i]? = some y:=by
      intro i y hi
      rw [List.getElem?_take] at hi
      split at hi
      · rw [List.getElem?_drop] at hi;exact hi
      · cases hi
     rcases hv with ⟨b,n,cap,c',q1,q2,rfl,q4,_⟩ | ⟨q1,A',c',rfl,q4⟩
     · obtain ⟨bb,hf,_⟩:=own_at h hg hx hp
       subst q2
       cases hf with
       | ownE =>
         have : e - l = 0:=by simp at v2;omega
         refine ⟨some ⟨b,l * shN sh',none⟩,c',by rw [hlen],fun e => (by cases e),?_,?_⟩ <;> simp
       | own _ _ _ _ _ cur ty fr us how =>
         refine ⟨some ⟨b,l * shN sh',none⟩,c',by rw [hlen],fun e => (by cases e),fun i y hi => how.fits _ _ (hidx i y hi),fun i y j d hi hj => ⟨how.cell _ _ _ _ (hidx i y hi) hj,_,us (l + i) j,rfl,?_,how.rep _ _ _ _ (hidx i y hi) hj⟩⟩
         rw [addr_add,cell_at how.heap,← how.at_ _ _ _ _ (hidx i y hi) hj,Nat.add_mul,Nat.add_assoc]
     · subst q1
       refine ⟨A',c',by rw [hlen,Nat.sub_self],fun _ => ?_,?_,?_⟩ <;> simp
   · cases hr
 | _ => simp [Arg.row] at hr
theorem RowMem.src3 {O : Nat → Prop} {sh : Option Nat} {ys : List PV} {x : Value} (h : RowMem w O sh ys x) {u : TypeId} {d : TypeDesc} (hu : P.underlying u = some d) (hd : ∀ k,d ≠ .int k) : ∃ news,Src P w (shN sh) u x ys.length news ∧ RowSrc w O sh ys news ∧ ∀ k,k ≤ ys.length → ∀ w1 : World,w1.heap = w.heap → (Builtin.firstCells (shN sh) k x).run P w1 = .ok (news.take (k * shN sh)).toArray w1:=by
 obtain ⟨A,c,rfl,hA,hf,hcell⟩:=h.ex
 cases A with
 | none =>
   have:=hA rfl
   subst this
   exact ⟨[],⟨⟨d,hu,hd⟩,fun w1 => by simp [Builtin.lenOf],fun w1 _ => by simp [Builtin.firstCells],by simp,by simp⟩,⟨by simp,by simp,by simp,by simp⟩,fun k _ w1 _ => by simp [Builtin.firstCells]⟩
 | some a =>
   have hcl : ∀ (i : Nat) (y : PV),ys[i]? = some y → y.cells.length = shN sh:=fun i y hi => cells_length (hf i y hi)
   let news : List Value:=(List.range (ys.length * shN sh)).map fun q => (w.cell? (a.add q)).getD Go.undef
   have hq : ∀ q,q < ys.length * shN sh → ∃ z y,w.cell? (a.add q) = some z ∧ isCell y = true ∧ RepV w O y z:=by
    intro q hq
    have h0 : 0 < shN sh:=by
     rcases Nat.eq_zero_or_pos (shN sh) with e | e
     · rw [e] at hq;omega
     · exact e
    have hi : q / shN sh < ys.length:=(Nat.div_lt_iff_lt_mul h0).2 hq
    have hj : q % shN sh < shN sh:=Nat.mod_lt _ h0
    have hy : ys[q / shN sh]? = some ys[q / shN sh]:=by simp [hi]
    have hlt : q % shN sh < (ys[q / shN sh]).cells.length:=by rw [hcl _ _ hy];exact hj
    obtain ⟨h1,a',z,ha',hz,hr⟩:=hcell _ _ (q % shN sh) ((ys[q / shN sh]).cells[q % shN sh]) hy (by simp [hlt])
    cases ha'
    have e1 : q / shN sh * shN sh + q % shN sh = q:=by rw [Nat.mul_comm];exact Nat.div_add_mod q (shN sh)
    rw [e1] at hz
    exact ⟨z,_,hz,h1,hr⟩
   have hnl : news.length = ys.length * shN sh:=by simp [news]
   have hnews : ∀ (q : Nat) (v : Value),news[q]? = some v → w.cell? (a.add q) = some v:=by
    intro q v hv
    have hlt:=(List.getElem?_eq_some_iff.1 hv).1
    rw [hnl] at hlt
    obtain ⟨z,y,hz,_,_⟩:=hq q hlt
    simp only [news,List.getElem?_map,List.getElem?_range hlt,Option.map_some,Option.some.injEq] at hv
    rw [hz] at hv ⊢
    exact congrArg some hv
   refine ⟨news,⟨⟨d,hu,hd⟩,fun w1 => by simp [Builtin.lenOf],fun w1 hw1 => ?_,hnl,fun v hv => ?_⟩,⟨hf,fun i x j y h1 h2 => (hcell i x j y h1 h2).1,fun i x j y h1 h2 => ?_,hnl⟩,fun k hk w1 hw1 => ?_⟩
   · refine run_firstCells_some w1 _ _ _ _ _ _ hnl fun q v hv => ?_
     rw [cell_same (w:=w) (by rw [hw1])]
     exact hnews q v hv
   · obtain ⟨q,hv⟩:=List.getElem?_of_mem hv
     have hlt:=(List.getElem?_eq_some_iff.1 hv).1
     rw [hnl] at hlt
     obtain ⟨z,y,hz,hc,hr⟩:=hq q hlt
     rw [hnews q v hv] at hz
     cases hz
     exact (hr.one hc).2
   · obtain ⟨_,a',z,ha',hz,hr⟩:=hcell i x j y h1 h2
     cases ha'
     have hj : j < shN sh:=by rw [← hcl i x h1];exact (List.getElem?_eq_some_iff.1 h2).1
     have hi : i < ys.length:=(List.getElem?_eq_some_iff.1 h1).1
     have:=Nat.mul_le_mul_right (shN sh) (show i + 1 ≤ ys.length by omega)
     rw [Nat.add_mul,Nat.one_mul] at this
     refine ⟨z,?_,hr⟩
     simp only [news,List.getElem?_map,List.getElem?_range (show i * shN sh + j < ys.length * shN sh by omega),Option.map_some,hz]
     rfl
   · have hm : k * shN sh ≤ ys.length * shN sh:=Nat.mul_le_mul_right _ hk
     refine run_firstCells_some w1 _ _ _ _ _ _ (by rw [List.length_take,hnl];omega) fun q v hv => ?_
     rw [cell_same (w:=w) (by rw [hw1])]
     rw [List.getElem?_take] at hv
     split at hv
     · exact hnews q v hv
     · cases hv
theorem RowMem.src {O : Nat → Prop} {sh : Option Nat} {ys : List PV} {x : Value} (h : RowMem w O sh ys x) {u : TypeId} {d : TypeDesc} (hu : P.underlying u = some d) (hd : ∀ k,d ≠ .int k) : ∃ news,Src P w (shN sh) u x ys.length news ∧ RowSrc w O sh ys news:=by
 obtain ⟨news,h1,h2,_⟩:=h.src3 hu hd
 exact ⟨news,h1,h2⟩
theorem text_pre {s : ByteArray} (k : Nat) (w1 : World) : (Builtin.firstCells 1 k (.string s)).run P w1 = .ok ((s.data.toList.map fun b => Value.int .u8 b.toNat).take k).toArray w1:=by
 simp only [Builtin.firstCells,Sem.run_pure]
 congr 1
 apply Array.ext'
 simp
theorem text_src3 {O : Nat → Prop} {u : TypeId} {d : TypeDesc} (hu : P.underlying u = some d) (hd : ∀ k,d ≠ .int k) (s : ByteArray) : ∃ news,Src P w 1 u (.string s) (s.data.toList.map pvByte).length news ∧ RowSrc w O none (s.data.toList.map pvByte) news ∧
 ∀ k (w1 : World),(Builtin.firstCells 1 k (.string s)).run P w1 = .ok (news.take k).toArray w1:=by
 refine ⟨s.data.toList.map fun b => .int .u8 b.toNat,⟨⟨_,hu,hd⟩,fun w1 => by simp [Builtin.lenOf],fun w1 _ => ?_,by simp,fun v hv => ?_⟩,⟨fun i x hi => ?_,fun i x j y hi hj => ?_,fun i x j y hi hj => ?_,by simp [shN]⟩,fun k w1 => text_pre k w1⟩
 · simp only [Builtin.firstCells,Sem.run_pure,List.length_map,Array.length_toList]
   congr 1
   apply Array.ext'
   simp
 · obtain ⟨b,_,rfl⟩:=List.mem_map.1 hv
   rfl
 all_goals
  rw [List.getElem?_map,Option.map_eq_some_iff] at hi
  obtain ⟨b,hb,rfl⟩:=hi
 · rfl
 · have hj : [pvByte b][j]? = some y:=hj
   cases j with
   | zero => simp at hj;subst hj;rfl
   | succ j => simp at hj
 · have hj : [pvByte b][j]? = some y:=hj
   cases j with
   | zero =>
     simp at hj
     subst hj
     exact ⟨.int .u8 b.toNat,by simp [shN,hb],.int _ _⟩
   | succ j => simp at hj
theorem text_src {O : Nat → Prop} {u : TypeId} {d : TypeDesc} (hu : P.underlying u = some d) (hd : ∀ k,d ≠ .int k) (s : ByteArray) : ∃ news,Src P w 1 u (.string s) (s.data.toList.map pvByte).length news ∧ RowSrc w O none (s.data.toList.map pvByte) news:=by
 obtain ⟨news,h1,h2,_⟩:=text_src3 (w:=w) (O:=O) hu hd s
 exact ⟨news,h1,h2⟩
end
end Go.Ev

namespace Go.Ev
section
variable {P : Program} {w : World} {Oc : Nat → Prop} {st : Slots} {tm : Nat → Value} {blk : Blk} {r : List Edit × SV}
theorem notOn_of_once {es es' : List Edit} {a : Arg} (ho : onceEach (es ++ es') = true) (ht : a.take = some es') (hne : es' ≠ []) : ∀ s,a.sv.root = some s → notOn s es = true:=by
 intro s hs
 obtain ⟨_,_,h3⟩:=onceEach_append ho
 cases es' with
 | nil => exact absurd rfl hne
 | cons e es' =>
   rw [take_root ht] at hs
   cases hs
   exact notOn_iff.2 (h3 e (by simp))
theorem take_nest {b : Arg} {x : Value} {cs : List FV} {es es' : List Edit} (hb : ArgRep w (blk.off Oc) st tm b x) (hov : b.ov = some (.cont .nest cs)) (ht : b.take = some es') (ho : onceEach (es ++ es') = true)
 {Oc1 : Nat → Prop} {blk1 : Blk} (h1 : SRel w Oc1 (edits es st) tm blk1) (hO : ∀ k,(blk1.off Oc1) k → (blk.off Oc) k) :
 ∃ blk2 pb,Pend w Oc1 (edits (es ++ es') st) tm blk2 (.home (.cont .nest cs)) x pb ∧ (∀ t c k,blk2 t c = some k → blk1 t c = some k) ∧ (∀ c k,pb c = some k → blk1.has k):=by
 rw [edits_append]
 by_cases hne : es' = []
 · subst hne
   obtain ⟨sv,rt⟩:=b
   cases sv with
   | home o =>
     simp only [Arg.ov,Option.some.injEq] at hov
     subst hov
     refine ⟨blk1,fun _ => none,quiet_pend h1 ?_,fun _ _ _ x => x,by simp⟩
     exact SVRep.move (v := .home (.cont .nest cs)) (st:=st) (tm:=tm) hb.rep ⟨fun k _ hno => ⟨rfl,fun q => hno (hO k q)⟩,fun _ _ => rfl⟩ (fun s hs => by simp [SV.root] at hs)
   | ref s c => obtain ⟨e,he,_⟩:=take_one rfl ht;cases he
   | _ => simp [Arg.ov] at hov
 · exact take_rep h1 (hb.edits hO (notOn_of_once ho ht hne)) hov ht
theorem nest_mem {O O' : Nat → Prop} {cs : List FV} {x : Value} {m : Option Nat} {β : Nat → Option Nat} (h : ORep w O (.cont .nest cs) x m β) (hO : ∀ k,O' k → O k) (hb : ∀ j k,β j = some k → ¬ O' k) : RowMem w O' none (cs.map FV.frz) x:=by
 cases h with
 | nestE A => exact ⟨A,0,rfl,fun _ => rfl,by simp,by simp⟩
 | nest cs b c cur e fr β hB ht hl hc hk hg h =>
   have hx : ∀ (i : Nat) (x : PV),(cs.map FV.frz)[i]? = some x → ∃ f,cs[i]? = some f ∧ x = f.frz ∧ isCell x = true:=by
    intro i x hi
    rw [List.getElem?_map,Option.map_eq_some_iff] at hi
    obtain ⟨f,hf,rfl⟩:=hi
    exact ⟨f,hf,rfl,FV.frz_isCell (hk i f hf) (hg i f hf)⟩
   refine ⟨some ⟨b,0,none⟩,c,by rw [List.length_map],by simp,fun i x hi => ?_,fun i x j y hi hj => ?_⟩
   · obtain ⟨f,_,_,hc⟩:=hx i x hi
     exact hc
   · obtain ⟨f,hf,rfl,hc⟩:=hx i x hi
     rw [cells_of_isCell hc] at hj
     cases j with
     | zero =>
       simp at hj
       subst hj
       obtain ⟨z,z1,z2⟩:=h.rep i f hf
       refine ⟨hc,_,z,rfl,?_,z2.frz (hg i f hf) hO fun k hk => hb i k hk⟩
       rw [addr_add,cell_at hB]
       simpa [shN] using z1
     | succ j => simp at hj
theorem holds_list {cs : List Bool} {α : Type} {a r : α} (h : Q.holds (cs,some a) r) : r = a ∧ ∀ c ∈ cs,c = true:=by
 obtain ⟨h1,h2⟩:=h
 exact ⟨(Option.some.inj h1).symm,h2⟩
theorem room_spec {e : TypeId} {ie : TypeInfo} (hi : P.info? e = some ie) {n : Nat} (h : ∀ c ∈ room P e n,c = true) : n * ie.bytes ≤ 140737488355328 ∧ n ≤ 9223372036854775807:=by
 have h1:=h (Nat.ble (n * tBytes P e) 140737488355328) (by simp [room])
 have h2:=h (Nat.ble n 9223372036854775807) (by simp [room])
 have hb : tBytes P e = ie.bytes:=by simp [tBytes,hi]
 rw [hb] at h1
 exact ⟨Nat.le_of_ble_eq_true h1,Nat.le_of_ble_eq_true h2⟩
theorem nest_src {O : Nat → Prop} {ds : List FV} {x : Value} {m : Option Nat} {β : Nat → Option Nat} (h : ORep w O (.cont .nest ds) x m β) {u : TypeId} {d : TypeDesc} (hu : P.underlying u = some d) (hd : ∀ k,d ≠ .int k) :
 ∃ news,Src P w 1 u x ds.length news ∧ ∀ (j : Nat) (f : FV),ds[j]? = some f → f.cellOk ∧ f.whole = true ∧ ∃ z,news[j]? = some z ∧ FRep w O f z (β j):=by
 cases h with
 | nestE A =>
   refine ⟨[],⟨⟨d,hu,hd⟩,fun w1 => by simp [Builtin.lenOf],fun w1 _ => ?_,by simp,by simp⟩,by simp⟩
   cases A <;> simp [Builtin.firstCells,Go.loadCells,Go.loadCellsFrom]
 | nest cs b c cur e fr β hB ht hl hc hk hg h =>
   have hlen : (cur.toList.take ds.length).length = ds.length:=by simp;omega
   refine ⟨cur.toList.take ds.length,⟨⟨d,hu,hd⟩,fun w1 => by simp [Builtin.lenOf],fun w1 hw1 => ?_,by rw [hlen,Nat.mul_one],fun v hv => ?_⟩,fun j f hj => ⟨hk j f hj,hg j f hj,?_⟩⟩
   · refine run_firstCells_some w1 _ _ _ _ _ _ (by rw [hlen,Nat.mul_one]) fun j v hj => ?_
     rw [addr_add,Nat.zero_add]
     have : w1.heap[b]? = some (.cells cur e fr):=by rw [hw1];exact hB
     rw [cell_at this]
     rw [List.getElem?_take] at hj
     split at hj
     · simpa using hj
     · cases hj
   · obtain ⟨q,hq⟩:=List.getElem?_of_mem hv
     have hlt:=(List.getElem?_eq_some_iff.1 hq).1
     rw [hlen] at hlt
     rw [List.getElem?_take,if_pos hlt] at hq
     have hf : ds[q]? = some ds[q]:=by simp [hlt]
     obtain ⟨z,z1,z2⟩:=h.rep q _ hf
     have : v = z:=by
      have hq' : cur[q]? = some v:=by simpa using hq
      rw [hq'] at z1
      exact Option.some.inj z1
     subst this
     exact (z2.one (hk q _ hf) (hg q _ hf)).2
   · obtain ⟨z,z1,z2⟩:=h.rep j f hj
     have hlt:=(List.getElem?_eq_some_iff.1 hj).1
     exact ⟨z,by rw [List.getElem?_take,if_pos hlt];simpa using z1,z2⟩
theorem nest_olds {O : Nat → Prop} {cs : List FV} {v : Value} {m : Option Nat} {β : Nat → Option Nat} (h : ORep w O (.cont .nest cs) v m β) :
 ∃ olds : List Value,olds.length = cs.length ∧ ((m = none ∧ cs = [] ∧ ∃ A,v = .slice A 0 0) ∨ ∃ b c cur ty' fr,m = some b ∧ v = .slice (some ⟨b,0,none⟩) cs.length c ∧ w.heap[b]? = some (.cells cur ty' fr) ∧ Thawed cur fr ∧ cur.size = c ∧ cs.length ≤ c ∧ olds = cur.toList.take cs.length) ∧
  ∀ (j : Nat) (f : FV),cs[j]? = some f → f.cellOk ∧ f.whole = true ∧ ∃ z,olds[j]? = some z ∧ FRep w O f z (β j):=by
 cases h with
 | nestE A => exact ⟨[],rfl,.inl ⟨rfl,rfl,A,rfl⟩,by simp⟩
 | nest cs b c cur e fr β hB ht hl hc hk hg h =>
   refine ⟨cur.toList.take cs.length,by simp;omega,.inr ⟨b,c,cur,e,fr,rfl,rfl,hB,ht,hl,hc,rfl⟩,fun j f hj => ?_⟩
   obtain ⟨z,z1,z2⟩:=h.rep j f hj
   have hlt:=(List.getElem?_eq_some_iff.1 hj).1
   exact ⟨hk j f hj,hg j f hj,z,by rw [List.getElem?_take,if_pos hlt];simpa using z1,z2⟩
theorem sim_append (h : SRel w Oc st tm blk) (hOc : ∀ k,Oc k → k < w.heap.size) {a b : Arg} {v x : Value} {t u ty : TypeId} (hu : u = t ∨ P.underlying u = some .string) (ha : ArgRep w (blk.off Oc) st tm a v) (hb : ArgRep w (blk.off Oc) st tm b x)
 (hr : (cAppend P t a b).holds r) : Gives P (asNext (Builtin.append_ #[t,u] ty #[v,x])) w Oc st tm blk r:=by
 unfold cAppend at hr
 split at hr
 · exact (Q.holds_no hr).elim
 · rename_i e he
   have hut:=tElem_spec he
   have hud : ∃ d,P.underlying u = some d ∧ ∀ k,d ≠ .int k:=by
    rcases hu with rfl | hu
    · exact ⟨_,hut,by simp⟩
    · exact ⟨_,hu,by simp⟩
   obtain ⟨d,hud,hni⟩:=hud
   split at hr
   · rename_i x1 x2 x3 sh sh0 xs sp es hs hov ht
     split at hr
     · rename_i sh1 ys es' happ
       split at hr
       · rename_i hc
         obtain ⟨rfl,hroom⟩:=holds_list hr
         simp only [Bool.and_eq_true] at hc
         obtain ⟨⟨⟨⟨c1,c2⟩,c3⟩,c4⟩,c5⟩:=hc
         cases shEq_eq c4
         cases shEq_eq c5
         obtain ⟨ie,z,hi,hz,hzs⟩:=zeroOk_spec c3
         obtain ⟨ie',hi',hsz⟩:=tShape_size hs
         rw [hi] at hi'
         cases hi'
         obtain ⟨hfit,h63⟩:=room_spec hi hroom
         obtain ⟨blk1,pb,h1,h2,h3⟩:=take_rep h ha hov ht
         have hrep1 : ORep w _ (.flat (.own sh xs sp)) v (pb none) (fun j => pb (some j)):=h1.rep
         obtain ⟨hf1,hpn⟩:=hrep1.flat_inv
         have hO1 : ∀ k,(Oc k ∨ pb none = some k) → (Oc k ∨ ∃ c,pb c = some k):=by
          rintro k (q | q)
          · exact .inl q
          · exact .inr ⟨none,q⟩
         have hO1' : ∀ k,(Oc k ∨ ∃ c,pb c = some k) → (Oc k ∨ pb none = some k):=by
          rintro k (q | ⟨c,q⟩)
          · exact .inl q
          · cases c with
            | none => exact .inr q
            | some j => rw [hpn j] at q;cases q
         have hbase : SRel w (fun k => Oc k ∨ pb none = some k) (edits es st) tm blk1:=h1.base.world (Nat.le_refl _) (fun _ _ _ => rfl) (fun k _ q => hO1 k q)
         have hsub1 : ∀ k,(blk1.off fun k => Oc k ∨ pb none = some k) k → (blk.off Oc) k:=by
          rintro k (⟨t,c,q⟩ | q | q)
          · exact .inl ⟨t,c,h2 _ _ _ q⟩
          · exact .inr q
          · exact .inl (h3 _ _ q)
         have hsrc : ∃ news blk2,SRel w (fun k => Oc k ∨ pb none = some k) (edits (es ++ es') st) tm blk2 ∧ (∀ t c k,blk2 t c = some k → blk1 t c = some k) ∧ Src P w (shN sh) u x ys.length news ∧
          RowSrc w (blk2.off fun k => Oc k ∨ pb none = some k) sh ys news:=by
          unfold appSrc at happ
          split at happ
          · rename_i x4 s hbs
            split at happ
            · simp only [Option.some.injEq,Prod.mk.injEq] at happ
              obtain ⟨rfl,rfl,rfl⟩:=happ
              obtain ⟨bs,rfl,rfl⟩:=(hb.val hbs).str_inv
              obtain ⟨news,n1,n2⟩:=text_src (w:=w) (O:=blk1.off fun k => Oc k ∨ pb none = some k) hud hni bs
              exact ⟨news,blk1,by simpa using hbase,fun _ _ _ q => q,n1,n2⟩
            · cases happ
          · split at happ
            · rename_i cs hbo
              split at happ
              · rename_i es2 hbt
                simp only [Option.some.injEq,Prod.mk.injEq] at happ
                obtain ⟨rfl,rfl,rfl⟩:=happ
                obtain ⟨blk2,pb2,g1,g2,g3⟩:=take_nest hb hbo hbt c1 hbase hsub1
                have hrep2 : ORep w _ (.cont .nest cs) x (pb2 none) (fun j => pb2 (some j)):=g1.rep
                have hmem:=nest_mem (O':=blk2.off fun k => Oc k ∨ pb none = some k) hrep2 (fun k q => by
                 rcases q with q | q
                 · exact .inl q
                 · exact .inr (.inl q)) (fun j k hk q => by
                 rcases q with ⟨t,c,q⟩ | q
                 · exact (g1.base.out _ _ _ q).1 (.inr ⟨_,hk⟩)
                 · exact (g1.out _ _ hk).1 q)
                obtain ⟨news,n1,n2⟩:=hmem.src hud hni
                exact ⟨news,blk2,g1.drop,g2,n1,n2⟩
              · cases happ
            · rename_i hno
              split at happ
              · rename_i sh2 xs2 hrow
                simp only [Option.some.injEq,Prod.mk.injEq] at happ
                obtain ⟨rfl,rfl,rfl⟩:=happ
                obtain ⟨news,n1,n2⟩:=(arg_mem h hb hrow (fun cs e => hno cs e)).src hud hni
                exact ⟨news,blk1,by simpa using hbase,fun _ _ _ q => q,n1,n2.move hsub1⟩
              · cases happ
         obtain ⟨news,blk2,s1,s2,s3,s4⟩:=hsrc
         have hf2 : FRep w (blk2.off fun k => Oc k ∨ pb none = some k) (.own sh xs sp) v (pb none):=hf1.move ⟨fun k _ hno => ⟨rfl,fun q => hno (by
          rcases q with ⟨t,c,q⟩ | q
          · exact .inl ⟨t,c,s2 _ _ _ q⟩
          · exact .inr (hO1 k q))⟩,fun _ _ => rfl⟩
         obtain ⟨v',w',pb',k1,k2,k3,k4,k5,k6,k7,k8⟩:=append_own (ty:=ty) hut hi hz hsz hzs s1 hOc (fun k hk => h1.out _ _ hk) hf2 s3 s4 h63 hfit
         refine ⟨⟨_,v',w',blk2,pb',run_asNext k1,.inl rfl,⟨k2,k3,k4,k5,fun k hk hno => k6 k hk fun q => hno (h3 _ _ q)⟩,k7,subHas fun t c k q => h2 _ _ _ (s2 _ _ _ q),fun c k hk => ?_⟩⟩
         rcases k8 c k hk with q | q
         · exact .inl (h3 _ _ q)
         · exact .inr q
       · exact (Q.holds_no hr).elim
     · exact (Q.holds_no hr).elim
   · rename_i x1 x2 x3 cs es hs hov ht
     split at hr
     · exact (Q.holds_no hr).elim
     · rename_i hzo
       obtain ⟨ie,z,hi,hz,hzs⟩:=zeroOk_spec hzo
       obtain ⟨ie',hi',hsz⟩:=tShape_size hs
       rw [hi] at hi'
       cases hi'
       have hsz : ie.size = 1:=hsz
       obtain ⟨blk1,pb,h1,h2,h3⟩:=take_rep h ha hov ht
       have hrep1 : ORep w _ (.cont .nest cs) v (pb none) (fun j => pb (some j)):=h1.rep
       have hsub1 : ∀ k,(blk1.off fun k => Oc k ∨ ∃ c,pb c = some k) k → (blk.off Oc) k:=by
        rintro k (⟨t,c,q⟩ | q | ⟨c,q⟩)
        · exact .inl ⟨t,c,h2 _ _ _ q⟩
        · exact .inr q
        · exact .inl (h3 _ _ q)
       have hrow : ∃ olds : List Value,olds.length = cs.length ∧ ((pb none = none ∧ cs = [] ∧ ∃ A,v = .slice A 0 0) ∨ ∃ b c cur ty' fr,pb none = some b ∧ v = .slice (some ⟨b,0,none⟩) cs.length c ∧ w.heap[b]? = some (.cells cur ty' fr) ∧ Thawed cur fr ∧ cur.size = c ∧ cs.length ≤ c ∧ olds = cur.toList.take cs.length) ∧
        ∀ (j : Nat) (f : FV),cs[j]? = some f → f.cellOk ∧ f.whole = true ∧ ∃ z,olds[j]? = some z ∧ FRep w (blk1.off fun k => Oc k ∨ ∃ c,pb c = some k) f z (pb (some j)):=nest_olds hrep1
       obtain ⟨olds,ho1,ho2,ho3⟩:=hrow
       have fin : ∀ (ds : List FV) (es' : List Edit) (blk2 : Blk) (β2 : Nat → Option Nat) (news : List Value),SRel w (fun k => Oc k ∨ (∃ c,pb c = some k) ∨ ∃ j,β2 j = some k) (edits (es ++ es') st) tm blk2 → (∀ t c k,blk2 t c = some k → blk1 t c = some k) →
        (∀ j k,β2 j = some k → ¬ (Oc k ∨ ∃ c,pb c = some k) ∧ k < w.heap.size ∧ blk1.has k) → (∀ j j' k,β2 j = some k → β2 j' = some k → j = j') → (∀ j,ds.length ≤ j → β2 j = none) → Src P w 1 u x ds.length news →
        (∀ (j : Nat) (f : FV),ds[j]? = some f → f.cellOk ∧ f.whole = true ∧ ∃ z,news[j]? = some z ∧ FRep w (blk2.off fun k => Oc k ∨ (∃ c,pb c = some k) ∨ ∃ j,β2 j = some k) f z (β2 j)) →
        cs.length + ds.length ≤ 9223372036854775807 → (cs.length + ds.length) * ie.bytes ≤ 140737488355328 →
        Gives P (asNext (Builtin.append_ #[t,u] ty #[v,x])) w Oc st tm blk (es ++ es',.home (.cont .nest (cs ++ ds))):=by
        intro ds es' blk2 β2 news b1 b2 b3 b4 b5 b6 b7 h63 hfit
        let β : Nat → Option Nat:=fun j => if j < cs.length then pb (some j) else β2 (j - cs.length)
        have hβ : ∀ j k,β j = some k → (j < cs.length ∧ pb (some j) = some k) ∨ (cs.length ≤ j ∧ β2 (j - cs.length) = some k):=by
         intro j k hk
         simp only [β] at hk
         split at hk
         · rename_i hj;exact .inl ⟨hj,hk⟩
         · exact .inr ⟨by omega,hk⟩
        have hO : ∀ k,(Oc k ∨ pb none = some k ∨ ∃ j,β j = some k) → (Oc k ∨ (∃ c,pb c = some k) ∨ ∃ j,β2 j = some k):=by
         rintro k (q | q | ⟨j,q⟩)
         · exact .inl q
         · exact .inr (.inl ⟨_,q⟩)
         · rcases hβ j k q with ⟨_,q⟩ | ⟨_,q⟩
           · exact .inr (.inl ⟨_,q⟩)
           · exact .inr (.inr ⟨_,q⟩)
        have hmv : ∀ k,(blk2.off fun k => Oc k ∨ pb none = some k ∨ ∃ j,β j = some k) k → (blk2.off fun k => Oc k ∨ (∃ c,pb c = some k) ∨ ∃ j,β2 j = some k) k:=by
         rintro k (q | q)
         · exact .inl q
         · exact .inr (hO k q)
        have hmv1 : ∀ k,(blk2.off fun k => Oc k ∨ pb none = some k ∨ ∃ j,β j = some k) k → (blk1.off fun k => Oc k ∨ ∃ c,pb c = some k) k:=by
         rintro k (⟨t,c,q⟩ | q)
         · exact .inl ⟨t,c,b2 _ _ _ q⟩
         · rcases hO k q with q | q | ⟨j,q⟩
           · exact .inr (.inl q)
           · exact .inr (.inr q)
           · exact .inl (b3 _ _ q).2.2
        have hlen : news.length = ds.length:=by simpa using b6.size
        have hget : ∀ (j : Nat) (f : FV),(cs ++ ds)[j]? = some f → (j < cs.length ∧ cs[j]? = some f) ∨ (cs.length ≤ j ∧ ds[j - cs.length]? = some f):=by
         intro j f hj
         by_cases hlt : j < cs.length
         · rw [List.getElem?_append_left hlt] at hj;exact .inl ⟨hlt,hj⟩
         · rw [List.getElem?_append_right (by omega)] at hj;exact .inr ⟨by omega,hj⟩
        have hN : NestIn w (blk2.off fun k => Oc k ∨ pb none = some k ∨ ∃ j,β j = some k) (cs ++ ds) (olds ++ news) β := by
         refine ⟨fun j f hj => ?_,fun j f hj => ?_,fun j f hj => ?_,fun j hj => ?_,by simp [ho1,hlen]⟩
         · rcases hget j f hj with ⟨_,q⟩ | ⟨_,q⟩
           · exact (ho3 _ _ q).1
           · exact (b7 _ _ q).1
         · rcases hget j f hj with ⟨_,q⟩ | ⟨_,q⟩
           · exact (ho3 _ _ q).2.1
           · exact (b7 _ _ q).2.1
         · rcases hget j f hj with ⟨q0,q⟩ | ⟨q0,q⟩
           · obtain ⟨_,_,z,z1,z2⟩:=ho3 _ _ q
             have e1 : β j = pb (some j):=by simp [β,q0]
             rw [e1]
             exact ⟨z,by rw [List.getElem?_append_left (by omega)];exact z1,z2.move ⟨fun k _ hno => ⟨rfl,fun q => hno (hmv1 k q)⟩,fun _ _ => rfl⟩⟩
           · obtain ⟨_,_,z,z1,z2⟩:=b7 _ _ q
             have e1 : β j = β2 (j - cs.length):=by simp only [β];rw [if_neg (by omega)]
             rw [e1]
             exact ⟨z,by rw [List.getElem?_append_right (by omega),ho1];exact z1,z2.move ⟨fun k _ hno => ⟨rfl,fun q => hno (hmv k q)⟩,fun _ _ => rfl⟩⟩
         · rw [List.length_append] at hj
           simp only [β]
           rw [if_neg (by omega)]
           exact b5 _ (by omega)
        obtain ⟨v',w',pb',k1,k2,k3,k4,k5,k6,k7,k8⟩:=append_nest (ty:=ty) hut hi hz hsz hzs (mb:=pb none) (β := β) (b1.world (Nat.le_refl _) (fun _ _ _ => rfl) (fun k _ q => hO k q)) hOc
         (fun k hk => ⟨(h1.out _ _ hk).1,(h1.out _ _ hk).2,fun j q => by
           rcases hβ j k q with ⟨_,q⟩ | ⟨_,q⟩
           · have:=h1.inj _ _ _ hk q;cases this
           · exact (b3 _ _ q).1 (.inr ⟨_,hk⟩)⟩)
         (fun j k hk => by
           rcases hβ j k hk with ⟨_,q⟩ | ⟨_,q⟩
           · exact h1.out _ _ q
           · exact ⟨fun z => (b3 _ _ q).1 (.inl z),(b3 _ _ q).2.1⟩)
         (fun j j' k hj hj' => by
           rcases hβ j k hj with ⟨_,q⟩ | ⟨l1,q⟩ <;> rcases hβ j' k hj' with ⟨_,q'⟩ | ⟨l2,q'⟩
           · exact Option.some.inj (h1.inj _ _ _ q q')
           · exact absurd (.inr ⟨_,q⟩) (b3 _ _ q').1
           · exact absurd (.inr ⟨_,q'⟩) (b3 _ _ q).1
           · have:=b4 _ _ _ q q';omega) hN ho1 ho2 b6 h63 hfit
        refine ⟨⟨_,v',w',blk2,pb',run_asNext k1,.inl rfl,⟨k2,k3,k4,k5,fun k hk hno => k6 k hk fun q => hno (h3 _ _ q)⟩,k7,subHas fun t c k q => h2 _ _ _ (b2 _ _ _ q),fun c k hk => ?_⟩⟩
        rcases k8 c k hk with q | ⟨j,q⟩ | q
        · exact .inl (h3 _ _ q)
        · rcases hβ j k q with ⟨_,q⟩ | ⟨_,q⟩
          · exact .inl (h3 _ _ q)
          · obtain ⟨t,c,q⟩:=(b3 _ _ q).2.2
            exact .inl ⟨t,c,h2 _ _ _ q⟩
        · exact .inr q
       split at hr
       · rename_i x4 x5 ds es' hbo hbt
         split at hr
         · rename_i ho
           obtain ⟨rfl,hroom⟩:=holds_list hr
           obtain ⟨hfit,h63⟩:=room_spec hi hroom
           obtain ⟨blk2,pb2,g1,g2,g3⟩:=take_nest hb hbo hbt ho h1.base hsub1
           have hrep2 : ORep w _ (.cont .nest ds) x (pb2 none) (fun j => pb2 (some j)):=g1.rep
           obtain ⟨news,n1,n2⟩:=nest_src hrep2 hud hni
           have hOO : ∀ k,(Oc k ∨ (∃ c,pb c = some k) ∨ ∃ j,pb2 (some j) = some k) → ((Oc k ∨ ∃ c,pb c = some k) ∨ ∃ c,pb2 c = some k):=by
            rintro k (q | q | ⟨j,q⟩)
            · exact .inl (.inl q)
            · exact .inl (.inr q)
            · exact .inr ⟨_,q⟩
           refine fin ds es' blk2 (fun j => pb2 (some j)) news (g1.base.world (Nat.le_refl _) (fun _ _ _ => rfl) (fun k _ q => hOO k q)) g2 (fun j k hk => ⟨(g1.out _ _ hk).1,(g1.out _ _ hk).2,g3 _ _ hk⟩)
            (fun j j' k q q' => Option.some.inj (g1.inj _ _ _ q q')) hrep2.none_ n1 (fun j f hj => ?_) h63 hfit
           obtain ⟨m1,m2,z,z1,z2⟩:=n2 j f hj
           refine ⟨m1,m2,z,z1,z2.move ⟨fun k _ hno => ⟨rfl,fun q => hno ?_⟩,fun _ _ => rfl⟩⟩
           rcases q with q | q
           · exact .inl q
           · exact .inr (hOO k q)
         · exact (Q.holds_no hr).elim
       · rename_i x4 x5 sh1 ys hbo
         split at hr
         · rename_i hsh
           cases shEq_eq hsh
           obtain ⟨rfl,hroom⟩:=holds_list hr
           have hrow : b.row = some (none,ys):=by
            obtain ⟨sv,rt⟩:=b
            cases sv with
            | home o => simp only [Arg.ov,Option.some.injEq] at hbo;subst hbo;rfl
            | ref s c =>
              cases rt with
              | none => simp [Arg.ov] at hbo
              | some p => obtain ⟨s',o⟩:=p;simp only [Arg.ov] at hbo;simp only [Arg.row,hbo];rfl
            | _ => simp [Arg.ov] at hbo
           obtain ⟨news,n1,n2⟩:=(arg_mem h hb hrow (fun cs e => by rw [hbo] at e;cases e)).src hud hni
           have hys : (ys.map FV.val).length = ys.length:=by simp
           rw [← hys] at hroom n1
           obtain ⟨hfit,h63⟩:=room_spec hi hroom
           have:=fin (ys.map .val) [] blk1 (fun _ => none) news (by
            simp only [List.append_nil]
            exact h1.base.world (Nat.le_refl _) (fun _ _ _ => rfl) (fun k _ q => by
             rcases q with q | q | ⟨_,q⟩
             · exact .inl q
             · exact .inr q
             · cases q)) (fun _ _ _ q => q) (by simp) (by simp) (by simp) n1 (fun j f hj => ?_) h63 hfit
           · simpa using this
           · rw [List.getElem?_map,Option.map_eq_some_iff] at hj
             obtain ⟨y,hy,rfl⟩:=hj
             have hc : isCell y = true:=n2.fits j y hy
             obtain ⟨z,z1,z2⟩:=n2.rep j y 0 y hy (by rw [cells_of_isCell hc];rfl)
             refine ⟨hc,rfl,z,by simpa [shN] using z1,.val _ _ (z2.move fun k _ hno => ⟨rfl,fun q => hno (hsub1 k ?_)⟩)⟩
             rcases q with q | q | q | ⟨_,q⟩
             · exact .inl q
             · exact .inr (.inl q)
             · exact .inr (.inr q)
             · cases q
         · exact (Q.holds_no hr).elim
       · exact (Q.holds_no hr).elim
   · exact (Q.holds_no hr).elim
end
end Go.Ev

namespace Go.Ev
section
variable {P : Program} {w : World} {Oc : Nat → Prop} {st : Slots} {tm : Nat → Value} {blk : Blk} {r : List Edit × SV}
inductive ArgsRep (w : World) (O : Nat → Prop) (st : Slots) (tm : Nat → Value) : List Arg → List Value → Prop
 | nil : ArgsRep w O st tm [] []
 | cons (a : Arg) (u : Value) (as : List Arg) (us : List Value) (h : ArgRep w O st tm a u) (hr : ArgsRep w O st tm as us) : ArgsRep w O st tm (a :: as) (u :: us)
theorem ArgsRep.get {O : Nat → Prop} : ∀ {as : List Arg} {us : List Value},ArgsRep w O st tm as us → us.length = as.length ∧ ∀ (i : Nat) (a : Arg),as[i]? = some a → ∃ u,us[i]? = some u ∧ ArgRep w O st tm a u
 | _,_,.nil => ⟨rfl,fun i a h => by simp at h⟩
 | _,_,.cons a u as us h hr => by
   obtain ⟨h1,h2⟩:=hr.get
   refine ⟨by simp [h1],fun i b hb => ?_⟩
   cases i with
   | zero => simp at hb;subst hb;exact ⟨u,rfl,h⟩
   | succ i => exact h2 i b (by simpa using hb)
theorem ArgsRep.append {O : Nat → Prop} : ∀ {as bs : List Arg} {us vs : List Value},ArgsRep w O st tm as us → ArgsRep w O st tm bs vs → ArgsRep w O st tm (as ++ bs) (us ++ vs)
 | _,_,_,_,.nil,h => h
 | _,_,_,_,.cons a u as us h hr,g => .cons a u _ _ h (hr.append g)
theorem fetchAll_rep (h : SRel w Oc st tm blk) (act : Act) (hact : ∀ t,act.tmps.getD t Go.undef = tm t) : ∀ (xs : List Operand) (ts : List TypeId) (as : List Arg),fetchAll P st ts xs = some as → ArgsRep w (blk.off Oc) st tm as (xs.map act.eval)
 | [],_,as,hf => by simp only [fetchAll,Option.some.injEq] at hf;subst hf;exact .nil
 | x :: xs,ts,as,hf => by
   simp only [fetchAll] at hf
   split at hf
   · rename_i a as' h1 h2
     cases hf
     exact .cons _ _ _ _ (fetch_rep h h1 act hact) (fetchAll_rep h act hact xs ts.tail as' h2)
   · cases hf
theorem fetchParts_rep (h : SRel w Oc st tm blk) (act : Act) (hact : ∀ t,act.tmps.getD t Go.undef = tm t) (ty : Nat → TypeId) : ∀ (xs : List (Nat × Operand)) (ps : List (Nat × Arg)),fetchParts P st ty xs = some ps →
 PartsReady w (blk.off Oc) st tm [] ps (xs.map fun (i,x) => (i,act.eval x))
 | [],ps,hf => by simp only [fetchParts,Option.some.injEq] at hf;subst hf;exact .nil
 | (i,x) :: xs,ps,hf => by
   simp only [fetchParts] at hf
   split at hf
   · rename_i a as' h1 h2
     cases hf
     exact .cons _ _ _ _ _ (Ready.start h (fetch_rep h h1 act hact)) (fetchParts_rep h act hact ty xs as' h2)
   · cases hf
theorem optInt_rep (h : SRel w Oc st tm blk) (act : Act) (hact : ∀ t,act.tmps.getD t Go.undef = tm t) {x : Option Operand} {n : Option Int} (hf : optInt P st x = some n) : OptRep n (x.map act.eval):=by
 cases x with
 | none => simp only [optInt,Option.some.injEq] at hf;subst hf;exact .none
 | some x =>
   simp only [optInt] at hf
   split at hf
   · rename_i a h1
     split at hf
     · rename_i m hm
       cases hf
       obtain ⟨k,hk⟩:=(fetch_rep h h1 act hact).int hm
       simp only [Option.map_some,hk]
       exact .some k m
     · cases hf
   · cases hf
theorem arg_owns_none {a : Arg} (ha : a.sv.root = none) (blk : Blk) (k : Nat) : ¬ a.owns blk k:=by
 unfold Arg.owns
 cases hsv : a.sv with
 | ref s c => rw [hsv] at ha;simp [SV.root] at ha
 | view s c l h => rw [hsv] at ha;simp [SV.root] at ha
 | rng s j n => rw [hsv] at ha;simp [SV.root] at ha
 | _ => exact id
theorem freeze_arg (h : SRel w Oc st tm blk) {a : Arg} {v : PV} {es : List Edit} (hroot : ∀ s o,a.rt = some (s,o) → st.get s = .home o ∧ a.sv.root = some s) (hp : a.pv = some v) (hf : a.freeze = some es) :
 ∃ blk',SRel w Oc (edits es st) tm blk' ∧ (∀ t c k,blk' t c = some k → blk t c = some k) ∧ (∀ t c k,blk' t c = some k → ¬ a.owns blk k) ∧ (∀ t,(∀ e ∈ es,e.s ≠ t) → blk' t = blk t) ∧ (∀ e ∈ es,a.sv.root = some e.s):=by
 obtain ⟨sv,rt⟩:=a
 cases sv with
 | home o =>
   simp only [Arg.freeze,Option.some.injEq] at hf
   subst hf
   exact ⟨blk,h,fun _ _ _ q => q,fun _ _ k _ => arg_owns_none (by rfl) _ _,fun _ _ => rfl,fun e he => by cases he⟩
 | fadr sh p =>
   simp only [Arg.freeze,Option.some.injEq] at hf
   subst hf
   exact ⟨blk,h,fun _ _ _ q => q,fun _ _ k _ => arg_owns_none (by rfl) _ _,fun _ _ => rfl,fun e he => by cases he⟩
 | ref s c =>
   cases rt with
   | none => simp [Arg.freeze] at hf
   | some p =>
     obtain ⟨s',o⟩:=p
     obtain ⟨hg,hr⟩:=hroot s' o rfl
     cases (Option.some.inj hr : s = s')
     simp only [Arg.freeze] at hf
     split at hf
     · rename_i x hx
       split at hf
       · rename_i v' hv
         cases he : setAt s o c (.val v') with
         | none => rw [he] at hf;cases hf
         | some e =>
           rw [he] at hf
           simp only [one,Option.some.injEq] at hf
           subst hf
           obtain ⟨blk',h1,h2,h3⟩:=freeze_place h hg hx hv he
           have hes : e.s = s:=by
            rcases setAt_val he with ⟨_,rfl⟩ | ⟨_,_,_,_,_,rfl⟩ <;> rfl
           exact ⟨blk',h1,fun t c k q => (h2 t c k q).1,fun t c k q => (h2 t c k q).2,fun t ht => h3 t fun e2 => ht e (by simp) (by rw [hes,e2]),fun e' he' => by simp at he';subst he';rw [hes];rfl⟩
       · cases hf
     · cases hf
 | view s c l u =>
   cases rt with
   | none => simp [Arg.freeze] at hf
   | some p =>
     obtain ⟨s',o⟩:=p
     obtain ⟨hg,hr⟩:=hroot s' o rfl
     cases (Option.some.inj hr : s = s')
     simp only [Arg.freeze] at hf
     split at hf
     · rename_i x hx
       split at hf
       · rename_i v' hv
         cases he : setAt s o c (.val v') with
         | none => rw [he] at hf;cases hf
         | some e =>
           rw [he] at hf
           simp only [one,Option.some.injEq] at hf
           subst hf
           obtain ⟨blk',h1,h2,h3⟩:=freeze_place h hg hx hv he
           have hes : e.s = s:=by
            rcases setAt_val he with ⟨_,rfl⟩ | ⟨_,_,_,_,_,rfl⟩ <;> rfl
           exact ⟨blk',h1,fun t c k q => (h2 t c k q).1,fun t c k q => (h2 t c k q).2,fun t ht => h3 t fun e2 => ht e (by simp) (by rw [hes,e2]),fun e' he' => by simp at he';subst he';rw [hes];rfl⟩
       · cases hf
     · cases hf
 | dead => simp [Arg.freeze] at hf
 | adr s j => simp [Arg.freeze] at hf
 | adrx s j => simp [Arg.freeze] at hf
 | adre s c i off => simp [Arg.freeze] at hf
 | rng s j n => simp [Arg.freeze] at hf
theorem owns_congr {a : Arg} {blk blk' : Blk} (h : ∀ s,a.sv.root = some s → blk' s = blk s) (k : Nat) : a.owns blk' k ↔ a.owns blk k:=by
 unfold Arg.owns
 cases hsv : a.sv with
 | ref s c =>
   have:=h s (by rw [hsv];rfl)
   cases c <;> simp [placeOwns,Blk.at,this]
 | view s c l u =>
   have:=h s (by rw [hsv];rfl)
   cases c <;> simp [placeOwns,Blk.at,this]
 | rng s j n =>
   have:=h s (by rw [hsv];rfl)
   simp [this]
 | _ => exact Iff.rfl
theorem freeze_on {a : Arg} {es : List Edit} (hf : a.freeze = some es) {s : Nat} (hs : a.sv.root = some s) : ∃ e ∈ es,e.s = s:=by
 obtain ⟨sv,rt⟩:=a
 have key : ∀ (s c) (o x : OV) (v : PV),setAt s o c (.val v) = none ∨ ∃ e,setAt s o c (.val v) = some e ∧ e.s = s:=by
  intro s c o x v
  cases he : setAt s o c (.val v) with
  | none => exact .inl rfl
  | some e =>
    right
    rcases setAt_val he with ⟨_,rfl⟩ | ⟨_,_,_,_,_,rfl⟩ <;> exact ⟨_,rfl,rfl⟩
 cases sv with
 | ref s' c =>
   have hss : s' = s:=Option.some.inj hs
   subst hss
   cases rt with
   | none => simp [Arg.freeze] at hf
   | some p =>
     obtain ⟨q,o⟩:=p
     simp only [Arg.freeze] at hf
     split at hf
     · rename_i x hx
       split at hf
       · rename_i v hv
         rcases key _ c o x v with he | ⟨e,he,h2⟩ <;> rw [he] at hf <;> simp only [one,Option.some.injEq] at hf
         · cases hf
         · subst hf;exact ⟨e,by simp,h2⟩
       · cases hf
     · cases hf
 | view s' c l u =>
   have hss : s' = s:=Option.some.inj hs
   subst hss
   cases rt with
   | none => simp [Arg.freeze] at hf
   | some p =>
     obtain ⟨q,o⟩:=p
     simp only [Arg.freeze] at hf
     split at hf
     · rename_i x hx
       split at hf
       · rename_i v hv
         rcases key _ c o x v with he | ⟨e,he,h2⟩ <;> rw [he] at hf <;> simp only [one,Option.some.injEq] at hf
         · cases hf
         · subst hf;exact ⟨e,by simp,h2⟩
       · cases hf
     · cases hf
 | home o => simp [SV.root] at hs
 | fadr sh p => simp [SV.root] at hs
 | dead => simp [SV.root] at hs
 | adr s j => simp [Arg.freeze] at hf
 | adrx s j => simp [Arg.freeze] at hf
 | adre s c i off => simp [Arg.freeze] at hf
 | rng s j n => simp [Arg.freeze] at hf
theorem freezes_on : ∀ {as : List Arg} {es : List Edit},freezes as = some es → ∀ a ∈ as,∀ s,a.sv.root = some s → ∃ e ∈ es,e.s = s
 | [],_,_,a,ha,_,_ => by cases ha
 | b :: as,es,hf,a,ha,s,hs => by
   simp only [freezes] at hf
   split at hf
   · rename_i e1 e2 h1 h2
     cases hf
     rcases List.mem_cons.1 ha with rfl | ha
     · obtain ⟨e,he,h3⟩:=freeze_on h1 hs
       exact ⟨e,by simp [he],h3⟩
     · obtain ⟨e,he,h3⟩:=freezes_on h2 a ha s hs
       exact ⟨e,by simp [he],h3⟩
   · cases hf
theorem freezes_rep : ∀ (as : List Arg) (st : Slots) (blk : Blk) (es : List Edit) (vs : List PV),SRel w Oc st tm blk → (∀ a ∈ as,∀ s o,a.rt = some (s,o) → st.get s = .home o ∧ a.sv.root = some s) → pvsOf as = some vs → freezes as = some es → onceEach es = true →
 ∃ blk',SRel w Oc (edits es st) tm blk' ∧ (∀ t c k,blk' t c = some k → blk t c = some k) ∧ (∀ a ∈ as,∀ t c k,blk' t c = some k → ¬ a.owns blk k) ∧ (∀ t,(∀ e ∈ es,e.s ≠ t) → blk' t = blk t)
 | [],st,blk,es,vs,h,_,_,hf,_ => by
   simp only [freezes,Option.some.injEq] at hf
   subst hf
   exact ⟨blk,h,fun _ _ _ q => q,fun a ha => (by cases ha),fun _ _ => rfl⟩
 | a :: as,st,blk,es,vs,h,hroot,hp,hf,ho => by
   simp only [freezes] at hf
   simp only [pvsOf] at hp
   split at hp
   · rename_i v vs' hv hvs
     split at hf
     · rename_i e1 e2 h1 h2
       cases hf
       obtain ⟨o1,o2,o3⟩:=onceEach_append ho
       obtain ⟨blk1,a1,a2,a3,a4,a5⟩:=freeze_arg h (hroot a (by simp)) hv h1
       have hon : ∀ b ∈ as,∀ s,b.sv.root = some s → notOn s e1 = true:=fun b hb s hs => by
        rw [notOn_iff]
        intro hm
        obtain ⟨e,he,rfl⟩:=freezes_on h2 b hb s hs
        exact o3 e he hm
       have hroot1 : ∀ b ∈ as,∀ s o,b.rt = some (s,o) → (edits e1 st).get s = .home o ∧ b.sv.root = some s:=by
        intro b hb s o hrt
        obtain ⟨q1,q2⟩:=hroot b (by simp [hb]) s o hrt
        exact ⟨(edits_home (hon b hb s q2) o).2 q1,q2⟩
       obtain ⟨blk2,b1,b2,b3,b4⟩:=freezes_rep as _ _ _ _ a1 hroot1 hvs h2 o2
       refine ⟨blk2,by rw [edits_append];exact b1,fun t c k q => a2 _ _ _ (b2 _ _ _ q),fun b hb t c k q => ?_,fun t ht => by rw [b4 t fun e he => ht e (by simp [he]),a4 t fun e he => ht e (by simp [he])]⟩
       rcases List.mem_cons.1 hb with rfl | hb
       · exact a3 t c k (b2 _ _ _ q)
       · rw [← owns_congr (blk':=blk1) (fun s hs => a4 s fun e he h2 => by
          have:=hon b hb s hs
          rw [notOn_iff] at this
          exact this (List.mem_map.2 ⟨e,he,h2⟩))]
         exact b3 b hb t c k q
     · cases hf
   · cases hp
theorem pvs_rep (h : SRel w Oc st tm blk) : ∀ {as : List Arg} {us : List Value} {vs : List PV},ArgsRep w (blk.off Oc) st tm as us → pvsOf as = some vs →
 vs.length = us.length ∧ ∀ (j : Nat) (y : PV),vs[j]? = some y → ∃ a z,a ∈ as ∧ us[j]? = some z ∧ RepV w (lent (blk.off Oc) blk a) y z
 | _,_,_,.nil,hp => by simp only [pvsOf,Option.some.injEq] at hp;subst hp;exact ⟨rfl,fun j y hj => by simp at hj⟩
 | _,_,_,.cons a u as us ha hr,hp => by
   simp only [pvsOf] at hp
   split at hp
   · rename_i v vs hv hvs
     cases hp
     obtain ⟨h1,h2⟩:=pvs_rep h hr hvs
     refine ⟨by simp [h1],fun j y hj => ?_⟩
     cases j with
     | zero => simp at hj;subst hj;exact ⟨a,u,by simp,rfl,arg_pv h ha hv⟩
     | succ j =>
       obtain ⟨b,z,hb,hz,hrep⟩:=h2 j y (by simpa using hj)
       exact ⟨b,z,by simp [hb],hz,hrep⟩
   · cases hp
theorem freezes_append : ∀ {as bs : List Arg} {es fs : List Edit},freezes as = some es → freezes bs = some fs → freezes (as ++ bs) = some (es ++ fs)
 | [],bs,es,fs,h1,h2 => by simp only [freezes,Option.some.injEq] at h1;subst h1;simpa using h2
 | a :: as,bs,es,fs,h1,h2 => by
   simp only [freezes] at h1
   split at h1
   · rename_i e1 e2 g1 g2
     cases h1
     simp only [List.cons_append,freezes,g1,freezes_append g2 h2,List.append_assoc]
   · cases h1
theorem pvsOf_append : ∀ {as bs : List Arg} {vs us : List PV},pvsOf as = some vs → pvsOf bs = some us → pvsOf (as ++ bs) = some (vs ++ us)
 | [],bs,es,fs,h1,h2 => by simp only [pvsOf,Option.some.injEq] at h1;subst h1;simpa using h2
 | a :: as,bs,es,fs,h1,h2 => by
   simp only [pvsOf] at h1
   split at h1
   · rename_i e1 e2 g1 g2
     cases h1
     simp only [List.cons_append,pvsOf,g1,pvsOf_append g2 h2]
   · cases h1
theorem sim_makeFunc (h : SRel w Oc st tm blk) {f : Fn} {fs cs : List Arg} {us vs : Array Value} (hf : ArgsRep w (blk.off Oc) st tm fs us.toList) (hc : ArgsRep w (blk.off Oc) st tm cs vs.toList) (hr : (cMakeFunc f fs cs).holds r) :
 Gives P (asNext (Instr.makeFunc f us vs)) w Oc st tm blk r:=by
 unfold cMakeFunc at hr
 split at hr
 · rename_i g a b e g' h1 h2 h3 h4
   split at hr
   · rename_i ho
     cases Q.holds_ok hr
     have hall:=hf.append hc
     have hroot : ∀ x ∈ fs ++ cs,∀ s o,x.rt = some (s,o) → st.get s = .home o ∧ x.sv.root = some s:=by
      intro x hx s o hrt
      obtain ⟨i,hi,rfl⟩:=List.mem_iff_getElem.1 hx
      obtain ⟨u,_,hu⟩:=hall.get.2 i _ (List.getElem?_eq_getElem hi)
      exact hu.root s o hrt
     obtain ⟨blk',k1,k2,k3,_⟩:=freezes_rep (fs ++ cs) st blk (e ++ g') _ h hroot (pvsOf_append h1 h2) (freezes_append h3 h4) ho
     have hmv : ∀ x ∈ fs ++ cs,∀ (y : PV) (z : Value),RepV w (lent (blk.off Oc) blk x) y z → RepV w (blk'.off Oc) y z:=by
      intro x hx y z hyz
      refine hyz.move fun k hk hno => ⟨rfl,fun q => hno ⟨?_,?_⟩⟩
      · rcases q with ⟨t,c,q⟩ | q
        · exact .inl ⟨t,c,k2 _ _ _ q⟩
        · exact .inr q
      · rcases q with ⟨t,c,q⟩ | q
        · exact k3 x hx t c k q
        · intro ow
          obtain ⟨i,hi,rfl⟩:=List.mem_iff_getElem.1 hx
          unfold Arg.owns at ow
          split at ow
          · rename_i s c hsv
            cases c with
            | none => obtain ⟨c,hc⟩:=ow;exact (h.out _ _ _ hc).1 q
            | some j => exact (h.out _ _ _ ow).1 q
          · rename_i s c _ _ hsv
            cases c with
            | none => obtain ⟨c,hc⟩:=ow;exact (h.out _ _ _ hc).1 q
            | some j => exact (h.out _ _ _ ow).1 q
          · obtain ⟨x,_,_,hx⟩:=ow;exact (h.out _ _ _ hx).1 q
          · exact ow
     obtain ⟨f1,f2⟩:=pvs_rep h hf h1
     obtain ⟨c1,c2⟩:=pvs_rep h hc h2
     have hrep : RepV w (blk'.off Oc) (.fn (.func g) a b) (.func (.func g) us vs):=by
      refine .fn _ _ _ _ _ (fun j => us.getD j Go.undef) (fun j => vs.getD j Go.undef) (by simpa using f1.symm) (by simpa using c1.symm) (fun j y hj => ?_) (fun j y hj => ?_) (fun j y hj => ?_) (fun j y hj => ?_)
      · obtain ⟨x,z,hx,hz,_⟩:=f2 j y hj
        have hz' : us[j]? = some z:=by simpa using hz
        simp [hz']
      · obtain ⟨x,z,hx,hz,hyz⟩:=f2 j y hj
        have hz' : us[j]? = some z:=by simpa using hz
        have : us.getD j Go.undef = z:=by simp [hz']
        rw [this]
        exact hmv x (by simp [hx]) y z hyz
      · obtain ⟨x,z,hx,hz,_⟩:=c2 j y hj
        have hz' : vs[j]? = some z:=by simpa using hz
        simp [hz']
      · obtain ⟨x,z,hx,hz,hyz⟩:=c2 j y hj
        have hz' : vs[j]? = some z:=by simpa using hz
        have : vs.getD j Go.undef = z:=by simp [hz']
        rw [this]
        exact hmv x (by simp [hx]) y z hyz
     refine ⟨⟨_,_,w,blk',fun _ => none,run_asNext (u := .func (.func g) us vs) (by simp [Instr.makeFunc]),.inl rfl,Grow.refl _ _,quiet_pend k1 (.flat _ _ _ (.val _ _ hrep)),subHas k2,fun c k hk => by cases hk⟩⟩
   · exact (Q.holds_no hr).elim
 · exact (Q.holds_no hr).elim
end
end Go.Ev

namespace Go.Ev
section
variable {P : Program} {w : World} {Oc : Nat → Prop} {st : Slots} {tm : Nat → Value} {blk : Blk} {r : List Edit × SV}
theorem copy_src (h : SRel w Oc st tm blk) {e u : TypeId} {d : TypeDesc} (hud : P.underlying u = some d) (hni : ∀ k,d ≠ .int k) {b : Arg} {x : Value} {ys : List PV} (hb : ArgRep w (blk.off Oc) st tm b x) (hs : copySrc P e b = some ys) :
 ∃ news : List Value,(∀ w1,(Builtin.lenOf x).run P w1 = .ok ys.length w1) ∧ RowSrc w (blk.off Oc) none ys news ∧ (∀ v ∈ news,v.oneCell' = true) ∧
  ∀ k,k ≤ ys.length → ∀ w1 : World,w1.heap = w.heap → (Builtin.firstCells 1 k x).run P w1 = .ok (news.take k).toArray w1:=by
 unfold copySrc at hs
 split at hs
 · rename_i s hbs
   split at hs
   · cases hs
     obtain ⟨bs,rfl,rfl⟩:=(hb.val hbs).str_inv
     obtain ⟨news,n1,n2,n3⟩:=text_src3 (w:=w) (O:=blk.off Oc) hud hni bs
     exact ⟨news,n1.len,n2,n1.one,fun k _ w1 _ => n3 k w1⟩
   · cases hs
 · split at hs
   · cases hs
   · rename_i hno
     split at hs
     · rename_i xs hrow
       cases hs
       obtain ⟨news,n1,n2,n3⟩:=(arg_mem h hb hrow (fun cs e => hno cs e)).src3 hud hni
       refine ⟨news,n1.len,n2,n1.one,fun k hk w1 hw1 => ?_⟩
       have:=n3 k hk w1 hw1
       simpa [shN] using this
     · cases hs
theorem getElem_splice (xs ys : List PV) (l n : Nat) (hl : l + n ≤ xs.length) (hn : n ≤ ys.length) (i : Nat) :
 (xs.take l ++ ys.take n ++ xs.drop (l + n))[i]? = if i < l then xs[i]? else if i < l + n then ys[i - l]? else xs[i]?:=by
 have l1 : (xs.take l).length = l:=by rw [List.length_take];omega
 have l2 : (ys.take n).length = n:=by rw [List.length_take];omega
 by_cases h1 : i < l
 · rw [if_pos h1,List.append_assoc,List.getElem?_append_left (by omega),List.getElem?_take,if_pos h1]
 · rw [if_neg h1]
   by_cases h2 : i < l + n
   · rw [if_pos h2,List.append_assoc,List.getElem?_append_right (by omega),List.getElem?_append_left (by omega),l1,List.getElem?_take,if_pos (by omega)]
   · rw [if_neg h2,List.getElem?_append_right (by simp;omega),List.getElem?_drop]
     congr 1
     simp
     omega
theorem sim_copy (h : SRel w Oc st tm blk) {a b : Arg} {v x : Value} {t u ty : TypeId} (hu : u = t ∨ P.underlying u = some .string) (ha : ArgRep w (blk.off Oc) st tm a v) (hb : ArgRep w (blk.off Oc) st tm b x)
 (hr : (cCopy P t a b).holds r) : Gives P (asNext (Builtin.copy_ #[t,u] ty #[v,x])) w Oc st tm blk r:=by
 obtain ⟨sv,rt⟩:=a
 unfold cCopy at hr
 split at hr
 · exact (Q.holds_no hr).elim
 · rename_i e he
   have hut:=tElem_spec he
   have hud : ∃ d,P.underlying u = some d ∧ ∀ k,d ≠ .int k:=by
    rcases hu with rfl | hu
    · exact ⟨_,hut,by simp⟩
    · exact ⟨_,hu,by simp⟩
   obtain ⟨d,hud,hni⟩:=hud
   split at hr
   · rename_i x1 x2 x3 x4 s c l h' s' o ys hs hsv hrt hsrc
     dsimp only at hsv hrt
     subst hsv hrt
     obtain ⟨ie,hi,hsz⟩:=tShape_size hs
     have hsz : ie.size = 1:=hsz
     split at hr
     · rename_i xs sp hx
       split at hr
       · rename_i o' ho
         obtain ⟨rfl,hcs⟩:=holds_list hr
         have hne : 0 < xs.length:=by
          have:=hcs _ (List.mem_singleton.mpr rfl)
          rw [Nat.blt_eq] at this
          exact this
         cases ha.slot rfl
         obtain ⟨hg,_⟩:=ha.home
         obtain ⟨v1,v2,z,hp,hv⟩:=ha.rep.2 _ _ _ _ hg hx
         obtain ⟨bb,hf,hown⟩:=own_at h hg hx hp
         obtain ⟨news,m1,m2,m3,m4⟩:=copy_src h hud hni hb hsrc
         obtain ⟨n,hn⟩ : ∃ n,Nat.min ys.length (h' - l) = n:=⟨_,rfl⟩
         have hn1 : n ≤ ys.length:=by rw [← hn];exact Nat.min_le_left _ _
         have hn2 : n ≤ h' - l:=by rw [← hn];exact Nat.min_le_right _ _
         rw [hn] at ho ⊢
         cases hf with
         | ownE => simp at hne
         | own _ _ _ b2 c2 cur ty' fr us how =>
           have hlen:=how.len
           have hsize : c2 ≤ cur.size:=by have:=how.size;simpa [shN] using this
           have hnl : news.length = ys.length:=by have:=m2.len;simpa [shN] using this
           have hnt : (news.take n).length = n:=by rw [List.length_take];omega
           let cur':=(cur.toList.take l ++ news.take n ++ cur.toList.drop (l + n)).toArray
           have hcur' : ∀ q,cur'[q]? = if q < l then cur[q]? else if q < l + n then news[q - l]? else cur[q]?:=by
            intro q
            have:=splice_get_array cur (news.take n).toArray l (by simp [hnt];omega) q
            simp only [List.size_toArray,hnt,List.getElem?_toArray] at this
            rw [show cur' = (cur.toList.take l ++ (news.take n) ++ cur.toList.drop (l + n)).toArray from rfl]
            rw [List.getElem?_toArray,this]
            split
            · rfl
            · split
              · rw [List.getElem?_take,if_pos (by omega)]
              · rfl
           have hcs' : cur'.size = cur.size:=by
            simp only [cur',List.size_toArray,List.length_append,hnt,List.length_take,List.length_drop,Array.length_toList]
            omega
           have hrun : (Builtin.copy_ #[t,u] ty #[v,x]).run P w = .ok (.int .i64 (n : Int)) (w.setRow b2 cur'):=by
            have hfc:=m4 n hn1 w rfl
            have key : ∀ A c',v = .slice A (h' - l) c' → ((match A with | some a => storeCells a (news.take n) | none => (pure () : Sem Unit)).run P w = .ok () (w.setRow b2 cur')) → (Builtin.copy_ #[t,u] ty #[v,x]).run P w = .ok (.int .i64 (n : Int)) (w.setRow b2 cur'):=by
             rintro A c' rfl hst
             unfold Builtin.copy_
             simp only [List.getElem?_toArray,List.getElem?_cons_zero,List.getElem?_cons_succ,Sem.run_bind,run_underlying' hut,Result.andThen_ok,m1 w,run_sizeOf' hi,hsz,hn,hfc]
             cases A with
             | none =>
               simp only [Sem.run_pure,Result.ok.injEq,true_and] at hst
               simp only [Sem.run_pure,goInt]
               rw [← hst]
             | some a =>
               simp only [Sem.run_bind,hst,Result.andThen_ok,Sem.run_pure,goInt]
            rcases hv with ⟨b,q0,cap,c',q1,q2,q3,q4,q5⟩ | ⟨q1,A',c',q3,q4⟩
            · simp only [Value.slice.injEq,Option.some.injEq,Addr.mk.injEq] at q2
              obtain ⟨⟨rfl,_⟩,_,_⟩:=q2
              refine key _ _ q3 ?_
              have:=run_storeCells_thawed (P:=P) b2 l ty' fr (news.take n) 0 cur w how.heap how.thaw (by rw [hnt];omega) (fun y hy => m3 y (List.mem_of_mem_take hy))
              simp only [Nat.add_zero,hnt] at this
              show (storeCells ⟨b2,l * 1,none⟩ (news.take n)).run P w = _
              rw [Nat.mul_one]
              exact this
            · have n0 : n = 0:=by omega
              subst q1
              rw [show h' - h' = 0 from Nat.sub_self _] at key
              refine key _ _ q3 ?_
              have e0 : w.setRow b2 cur' = w:=by
               have : cur' = cur:=by
                simp only [cur',n0,List.take_zero,List.append_nil,Nat.add_zero,List.take_append_drop,Array.toArray_toList]
               rw [this]
               exact setRow_self w b2 cur ty' fr how.heap
              rw [e0,n0]
              cases A' <;> simp [storeCells]
           have hwo : ∀ k,k ≠ b2 → (w.setRow b2 cur').heap[k]? = w.heap[k]?:=fun k hk => setRow_other w b2 k cur' hk
           have hwsize : (w.setRow b2 cur').heap.size = w.heap.size:=by simp [World.setRow]
           have hpl:=hown b2 rfl
           have hat : ∃ cc,blk s cc = some b2:=by
            cases c with
            | none => exact hpl
            | some j => exact ⟨_,hpl⟩
           have hoff : (blk.off Oc) b2 := .inl ⟨s,hat⟩
           have hmv : ∀ k,k < w.heap.size → ¬ (blk.off Oc) k → (w.setRow b2 cur').heap[k]? = w.heap[k]? ∧ ¬ (blk.off Oc) k:=fun k _ hno => ⟨hwo k fun e => hno (by rw [e];exact hoff),hno⟩
           have hxl : (xs.take l ++ ys.take n ++ xs.drop (l + n)).length = xs.length:=by
            simp only [List.length_append,List.length_take,List.length_drop];omega
           have hsp:=getElem_splice xs ys l n (by omega) hn1
           have hrow : RowIn (w.setRow b2 cur') (blk.off Oc) none (xs.take l ++ ys.take n ++ xs.drop (l + n)) cur':=by
            refine ⟨fun i y hy => ?_,fun i y j d hy hd => ?_,fun i y j d hy hd => ?_⟩
            all_goals
             rw [hsp] at hy
             split at hy
            · exact how.fits _ _ hy
            · split at hy
              · exact m2.fits _ _ hy
              · exact how.fits _ _ hy
            · exact how.cell _ _ _ _ hy hd
            · split at hy
              · exact m2.cell _ _ _ _ hy hd
              · exact how.cell _ _ _ _ hy hd
            · rename_i hlt
              have hj : j < shN none:=by rw [← cells_length (how.fits _ _ hy)];exact (List.getElem?_eq_some_iff.1 hd).1
              have hj : j = 0:=by simp [shN] at hj;exact hj
              subst hj
              refine ⟨us i 0,?_,(how.rep _ _ _ _ hy hd).move hmv⟩
              have:=how.at_ _ _ _ _ hy hd
              simp only [shN,Nat.mul_one,Nat.add_zero] at this ⊢
              rw [hcur',if_pos hlt]
              exact this
            · rename_i hlt
              split at hy
              · rename_i hlt2
                have hj : j < shN none:=by rw [← cells_length (m2.fits _ _ hy)];exact (List.getElem?_eq_some_iff.1 hd).1
                have hj : j = 0:=by simp [shN] at hj;exact hj
                subst hj
                obtain ⟨z',z1,z2⟩:=m2.rep _ _ _ _ hy hd
                refine ⟨z',?_,z2.move hmv⟩
                simp only [shN,Nat.mul_one,Nat.add_zero] at z1 ⊢
                rw [hcur',if_neg hlt,if_pos hlt2]
                exact z1
              · rename_i hlt2
                have hj : j < shN none:=by rw [← cells_length (how.fits _ _ hy)];exact (List.getElem?_eq_some_iff.1 hd).1
                have hj : j = 0:=by simp [shN] at hj;exact hj
                subst hj
                refine ⟨us i 0,?_,(how.rep _ _ _ _ hy hd).move hmv⟩
                have:=how.at_ _ _ _ _ hy hd
                simp only [shN,Nat.mul_one,Nat.add_zero] at this ⊢
                rw [hcur',if_neg hlt,if_neg hlt2]
                exact this
           have hnew : FRep (w.setRow b2 cur') (blk.off Oc) (.own none (xs.take l ++ ys.take n ++ xs.drop (l + n)) []) (.slice (some ⟨b2,0,none⟩) xs.length c2) (some b2):=by
            have:=hrow.own (b:=b2) (c:=c2) (setRow_heap w b2 cur cur' ty' fr how.heap) (how.thaw.size (by omega)) (by simp [shN];omega) (by rw [hxl];exact how.len) how.capL
            rw [hxl] at this
            exact this
           have hrep:=h.rep s
           rw [hg] at hrep
           have key:=SRel.edit (w':=w.setRow b2 cur') (Oc':=Oc) h ⟨s,.home o',.no⟩ (tm s) (blk s) (by rw [hwsize];exact Nat.le_refl _)
            (fun k _ _ hno => hwo k fun e => hno (by rw [e];exact hat)) (fun k _ hk => .inl hk)
            (fun cc k hk => ⟨.inl ⟨cc,hk⟩,(h.out _ _ _ hk).1,by rw [hwsize];exact (h.out _ _ _ hk).2⟩)
            (fun cc cc' k h1 h2 => (h.inj _ _ _ _ _ h1 h2).2)
            (by
              rw [updN_self]
              show ORep _ _ _ _ _ _
              rcases setRow_at hx ho with ⟨rfl,rfl,rfl⟩ | ⟨j,k,cs,rfl,rfl,hj,rfl⟩
              · have hz:=hp.top_eq
                obtain ⟨hf0,hβ⟩:=(show ORep w (blk.off Oc) (.flat (.own none xs sp)) (tm s) (blk s none) (fun j => blk s (some j)) from hrep).flat_inv
                have hbn : blk s none = some b2:=by
                 rw [← hz] at hf0
                 exact hf0.own_block (by rintro rfl;simp at hne)
                have e1 : (fun j => blk s (some j)) = fun _ => none:=funext hβ
                rw [e1,hbn,← hz]
                exact .flat _ _ _ hnew
              · have hpl : blk s (some j) = some b2:=hpl
                refine ORep.rerow hrep hj hp (fun e => ?_) (fun q hqj e => ?_) hwo (fun k hno => ⟨fun e => hno (by rw [e];exact hoff),hno⟩) (by rw [hpl];exact hnew) trivial rfl
                · have:=(h.inj _ _ _ _ _ e hpl).2;cases this
                · have:=(h.inj _ _ _ _ _ e hpl).2
                  simp only [Option.some.injEq] at this
                  exact hqj this)
            (fun t' ht' hroot hv' => by
              rw [updN_self,updN_self]
              have e0 : ((Cut.no).on s st) = st:=rfl
              rw [show (Edit.mk s (.home o') Cut.no).cut.on s st = st from rfl] at hroot ⊢
              refine alias_row hv' hroot hg (by rw [get_edit];simp) rfl hx ho (by rw [hxl]) (fun q bb hc hbb => ?_)
              cases c with
              | none => exact absurd rfl hc
              | some j =>
                obtain ⟨k,cs,f,rfl,hj,_⟩:=at_cont hx
                have hm:=ORep.block hrep (by rintro rfl;simp at hj) bb hbb
                have hne : bb ≠ b2:=by
                 rintro rfl
                 have:=(h.inj _ _ _ _ _ hm (show blk s (some j) = some bb from hpl)).2
                 cases this
                exact cell_same (hwo bb hne))
           rw [updN_self,updN_self] at key
           exact ⟨⟨_,.int .i64 n,_,blk,fun _ => none,run_asNext hrun,.inl rfl,⟨rfl,rfl,rfl,by rw [hwsize];exact Nat.le_refl _,fun k _ hk => hwo k fun e => hk (by rw [e];exact ⟨s,hat⟩)⟩,
            quiet_pend key (.flat _ _ _ (.val _ _ (.int _ _))),subHas (fun _ _ _ x => x),fun _ _ q => by cases q⟩⟩
       · exact (Q.holds_no hr).elim
     · exact (Q.holds_no hr).elim
   · exact (Q.holds_no hr).elim
end
end Go.Ev

namespace Go.Ev
section
variable {P : Program} {w : World} {Oc : Nat → Prop} {st : Slots} {tm : Nat → Value} {blk : Blk} {r : List Edit × SV}
theorem map_toList {α β : Type} (f : α → β) (xs : Array α) : (xs.map f).toList = xs.toList.map f:=by simp
theorem compute_sim (h : SRel w Oc st tm blk) (hOc : ∀ k,Oc k → k < w.heap.size) {act : Act} (hact : ∀ t,act.tmps.getD t Go.undef = tm t) {o : Oper} (hr : (compute P o st).holds r) :
 Gives P (execOp act.eval o) w Oc st tm blk r:=by
 have F : ∀ {t : TypeId} {x : Operand} {a : Arg},fetch P st t x = some a → ArgRep w (blk.off Oc) st tm a (act.eval x):=fun hf => fetch_rep h hf act hact
 unfold compute at hr
 split at hr
 · rename_i x ho
   obtain ⟨a,ha,hr'⟩:=Q.holds_withA hr
   exact sim_move h (F ha) hr' (by simp [execOp,ho])
 · rename_i x ho
   obtain ⟨a,ha,hr'⟩:=Q.holds_withA hr
   exact sim_assign h (F ha) hr' (by simp [execOp,ho])
 · rename_i c x y ho
   obtain ⟨b,hb,hr'⟩:=Q.holds_withA hr
   have hrun : ∀ (v : Bool),act.eval c = .bool v → (execOp act.eval o).run P w = .ok (.value (if v then act.eval x else act.eval y)) w:=by
    intro v hv
    simp [execOp,ho,hv,asBool]
   split at hr'
   · rename_i hbt
     obtain ⟨a,ha,hr2⟩:=Q.holds_withA hr'
     exact sim_move h (F ha) hr2 (by rw [hrun true ((F hb).bool hbt)];rfl)
   · rename_i hbt
     obtain ⟨a,ha,hr2⟩:=Q.holds_withA hr'
     exact sim_move h (F ha) hr2 (by rw [hrun false ((F hb).bool hbt)];rfl)
   · exact (Q.holds_no hr').elim
 · rename_i t ho
   have:=sim_alloc h hOc hr
   simpa [execOp,ho] using this
 · rename_i t x ho
   obtain ⟨a,ha,hr'⟩:=Q.holds_withA hr
   have:=sim_box h hOc (F ha) hr'
   simpa [execOp,ho] using this
 · rename_i t ps ho
   obtain ⟨a,ha,hr'⟩:=Q.holds_withA hr
   have hp:=fetchParts_rep h act hact _ _ _ ha
   have:=sim_build h (us:=ps.map fun (i,x) => (i,act.eval x)) (by rw [map_toList];exact hp) hr'
   simpa [execOp,ho] using this
 · rename_i t n ps ho
   obtain ⟨a,ha,hr'⟩:=Q.holds_withA hr
   have hp:=fetchParts_rep h act hact _ _ _ ha
   have:=sim_buildSlice h hOc (us:=ps.map fun (i,x) => (i,act.eval x)) (by rw [map_toList];exact hp) hr'
   simpa [execOp,ho] using this
 · rename_i t x ho
   obtain ⟨a,ha,hr'⟩:=Q.holds_withA hr
   have:=sim_load h (F ha) hr'
   simpa [execOp,ho] using this
 · rename_i t x y ho
   obtain ⟨a,ha,hr'⟩:=Q.holds_withA hr
   obtain ⟨b,hb,hr2⟩:=Q.holds_withA hr'
   have:=sim_store h (F ha) (F hb) hr2
   simpa [execOp,ho] using this
 · rename_i x ho
   obtain ⟨a,ha,hr'⟩:=Q.holds_withA hr
   exact sim_nilCheck h (F ha) hr' fun hn => run_nilCheck ho rfl hn
 · rename_i op xt x y yt ho
   obtain ⟨a,ha,hr'⟩:=Q.holds_withA hr
   obtain ⟨b,hb,hr2⟩:=Q.holds_withA hr'
   have:=sim_bin (x:=x) (y:=y) h (F ha) (F hb) hr2
   simpa [execOp,ho] using this
 · rename_i op t x ho
   obtain ⟨a,ha,hr'⟩:=Q.holds_withA hr
   have:=sim_un (P:=P) h (F ha) hr'
   simpa [execOp,ho] using this
 · rename_i s d x ho
   obtain ⟨a,ha,hr'⟩:=Q.holds_withA hr
   have:=sim_convert h hOc (F ha) hr'
   simpa [execOp,ho] using this
 · rename_i f fs cs ho
   obtain ⟨a,ha,hr'⟩:=Q.holds_withA hr
   obtain ⟨b,hb,hr2⟩:=Q.holds_withA hr'
   have:=sim_makeFunc (P:=P) (us:=fs.map act.eval) (vs:=cs.map act.eval) h (by rw [map_toList];exact fetchAll_rep h act hact _ _ _ ha) (by rw [map_toList];exact fetchAll_rep h act hact _ _ _ hb) hr2
   simpa [execOp,ho] using this
 · rename_i t n m ho
   obtain ⟨a,ha,hr'⟩:=Q.holds_withA hr
   obtain ⟨b,hb,hr2⟩:=Q.holds_withA hr'
   have:=sim_makeSlice h hOc (F ha) (F hb) hr2
   simpa [execOp,ho] using this
 · rename_i t x lo hi mx ho
   obtain ⟨a,ha,hr'⟩:=Q.holds_withA hr
   obtain ⟨l,hl,hr2⟩:=Q.holds_withA hr'
   obtain ⟨hh,hhi,hr3⟩:=Q.holds_withA hr2
   obtain ⟨m,hm,hr4⟩:=Q.holds_withA hr3
   have:=sim_slice h (F ha) (optInt_rep h act hact hl) (optInt_rep h act hact hhi) (optInt_rep h act hact hm) hr4
   simpa [execOp,ho] using this
 · rename_i t x f ho
   obtain ⟨a,ha,hr'⟩:=Q.holds_withA hr
   have:=sim_fieldAddr h (F ha) hr'
   simpa [execOp,ho] using this
 · rename_i t x f ho
   obtain ⟨a,ha,hr'⟩:=Q.holds_withA hr
   have:=sim_field h (F ha) hr'
   simpa [execOp,ho] using this
 · rename_i t x i ho
   obtain ⟨a,ha,hr'⟩:=Q.holds_withA hr
   obtain ⟨b,hb,hr2⟩:=Q.holds_withA hr'
   have:=sim_indexAddr h (F ha) (F hb) hr2
   simpa [execOp,ho] using this
 · rename_i t x i ho
   obtain ⟨a,ha,hr'⟩:=Q.holds_withA hr
   obtain ⟨b,hb,hr2⟩:=Q.holds_withA hr'
   have:=sim_index h (F ha) (F hb) hr2
   simpa [execOp,ho] using this
 · rename_i x i ho
   obtain ⟨a,ha,hr'⟩:=Q.holds_withA hr
   have:=sim_extract (P:=P) h (F ha) hr'
   simpa [execOp,ho] using this
 · rename_i c ho
   obtain ⟨callee,args,tys⟩:=c
   split at hr
   · rename_i hcal
     dsimp only at hcal hr
     subst hcal
     split at hr
     · rename_i t x ht hx
       obtain ⟨a,ha,hr'⟩:=Q.holds_withA hr
       have:=sim_len (ty:=o.type) h (F ha) hr'
       have e1 : tys = #[t]:=by cases tys;simp_all
       have e2 : args = #[x]:=by cases args;simp_all
       subst e1;subst e2
       simpa [execOp,ho,resolve,invoke,builtin] using this
     · exact (Q.holds_no hr).elim
   · rename_i hcal
     dsimp only at hcal hr
     subst hcal
     split at hr
     · rename_i t u x y ht hx
       have e1 : tys = #[t,u]:=by cases tys;simp_all
       have e2 : args = #[x,y]:=by cases args;simp_all
       subst e1;subst e2
       split at hr
       · rename_i htu
         cases Nat.eq_of_beq_eq_true htu
         obtain ⟨a,ha,hr'⟩:=Q.holds_withA hr
         obtain ⟨b,hb,hr2⟩:=Q.holds_withA hr'
         have:=sim_append (P:=P) (ty:=o.type) h hOc (.inl rfl) (F ha) (F hb) hr2
         simpa [execOp,ho,resolve,invoke,builtin] using this
       · split at hr
         · rename_i hu
           obtain ⟨a,ha,hr'⟩:=Q.holds_withA hr
           obtain ⟨b,hb,hr2⟩:=Q.holds_withA hr'
           have:=sim_append (P:=P) (ty:=o.type) h hOc (.inr hu) (F ha) (F hb) hr2
           simpa [execOp,ho,resolve,invoke,builtin] using this
         · exact (Q.holds_no hr).elim
     · exact (Q.holds_no hr).elim
   · rename_i hcal
     dsimp only at hcal hr
     subst hcal
     split at hr
     · rename_i t u x y ht hx
       have e1 : tys = #[t,u]:=by cases tys;simp_all
       have e2 : args = #[x,y]:=by cases args;simp_all
       subst e1;subst e2
       split at hr
       · rename_i htu
         cases Nat.eq_of_beq_eq_true htu
         obtain ⟨a,ha,hr'⟩:=Q.holds_withA hr
         obtain ⟨b,hb,hr2⟩:=Q.holds_withA hr'
         have:=sim_copy (P:=P) (ty:=o.type) h (.inl rfl) (F ha) (F hb) hr2
         simpa [execOp,ho,resolve,invoke,builtin] using this
       · split at hr
         · rename_i hu
           obtain ⟨a,ha,hr'⟩:=Q.holds_withA hr
           obtain ⟨b,hb,hr2⟩:=Q.holds_withA hr'
           have:=sim_copy (P:=P) (ty:=o.type) h (.inr hu) (F ha) (F hb) hr2
           simpa [execOp,ho,resolve,invoke,builtin] using this
         · exact (Q.holds_no hr).elim
     · exact (Q.holds_no hr).elim
   · rename_i hcal
     dsimp only at hcal hr
     subst hcal
     split at hr
     · rename_i x y hx
       have e2 : args = #[x,y]:=by cases args;simp_all
       subst e2
       obtain ⟨a,ha,hr'⟩:=Q.holds_withA hr
       obtain ⟨b,hb,hr2⟩:=Q.holds_withA hr'
       have:=sim_min (P:=P) (ts:=tys) (t:=o.type) h (F ha) (F hb) hr2
       simpa [execOp,ho,resolve,invoke,builtin] using this
     · exact (Q.holds_no hr).elim
   · rename_i hcal
     dsimp only at hcal hr
     subst hcal
     split at hr
     · rename_i x y hx
       have e2 : args = #[x,y]:=by cases args;simp_all
       subst e2
       obtain ⟨a,ha,hr'⟩:=Q.holds_withA hr
       obtain ⟨b,hb,hr2⟩:=Q.holds_withA hr'
       have:=sim_max (P:=P) (ts:=tys) (t:=o.type) h (F ha) (F hb) hr2
       simpa [execOp,ho,resolve,invoke,builtin] using this
     · exact (Q.holds_no hr).elim
   · exact (Q.holds_no hr).elim
 · exact (Q.holds_no hr).elim
end
end Go.Ev

