/- An evaluator of the model's code over pure data, and why it is right: part 2. -/
import Derived.Test.YtnieankaikhmnaaEva
import Derived.Laws.Sem
import Derived.Laws.Entries
import Derived.Laws.Strings
import Derived.Laws.StructEq
import Derived.Laws.Slices
import Derived.Laws.Cells

set_option linter.unusedVariables false

set_option linter.unusedSimpArgs false

set_option linter.unusedSectionVars false

namespace Go.Ev
theorem cells_of_isCell {v : PV} (h : isCell v = true) : v.cells = [v]:=by
 cases v <;> first | rfl | simp [isCell] at h
theorem FV.frz_isCell {f : FV} (hk : f.cellOk) (hw : f.whole = true) : isCell f.frz = true:=by
 cases f with
 | val v => exact hk
 | nil sh => rfl
 | own sh xs sp => rfl
 | gone => simp [FV.whole] at hw
theorem cell_at {w : World} {b j : Nat} {cur : Array Value} {e : TypeId} {fr : Nat × Nat} (h : w.heap[b]? = some (.cells cur e fr)) : w.cell? ⟨b,j,none⟩ = cur[j]?:=by
 simp [World.cell?,h]
theorem FRep.frz {w : World} {O O' : Nat → Prop} {f : FV} {u : Value} {b : Option Nat} (h : FRep w O f u b) (hw : f.whole = true) (hO : ∀ k,O' k → O k) (hb : ∀ k,b = some k → ¬ O' k) :
 RepV w O' f.frz u:=by
 cases h with
 | val v u h => exact h.move fun k _ hno => ⟨rfl,fun x => hno (hO k x)⟩
 | nil sh => exact .slNil sh
 | ownE sh A =>
   cases A with
   | none => exact .slNil sh
   | some a => exact .sl sh [] a 0 (fun _ _ => Go.undef) (by simp) (by simp) (by simp) (by simp) (by simp) (by simp)
 | own sh xs sp b c cur e fr us h =>
   refine .sl sh xs ⟨b,0,none⟩ c us h.len h.fits h.cell (fun _ _ _ _ _ _ => hb b rfl) (fun i x j y h1 h2 => ?_) (fun i x j y h1 h2 => (h.rep i x j y h1 h2).move fun k _ hno => ⟨rfl,fun x => hno (hO k x)⟩)
   rw [addr_add,cell_at h.heap,Nat.zero_add]
   exact h.at_ i x j y h1 h2
 | gone u => simp [FV.whole] at hw
theorem whole_of {cs : List FV} (h : cs.all FV.whole = true) {j : Nat} {f : FV} (hj : cs[j]? = some f) : f.whole = true :=
 List.all_eq_true.1 h f (List.mem_of_getElem? hj)
theorem twos_len : ∀ (l : List PV) (n : Nat),l.length = 2 * n → (twos l).length = n
 | [],n,h => by simp at h;simp [twos];omega
 | [a],n,h => by simp at h;omega
 | a :: b :: r,n,h => by
   cases n with
   | zero => simp at h
   | succ n => simp only [twos,List.length_cons];rw [twos_len r n (by simp at h;omega)]
theorem twos_get : ∀ (l : List PV) (i : Nat) (x : PV),(twos l)[i]? = some x → ∃ a b,l[2 * i]? = some a ∧ l[2 * i + 1]? = some b ∧ x = .agg [a,b]
 | [],i,x,h => by simp [twos] at h
 | [a],i,x,h => by simp [twos] at h
 | a :: b :: r,0,x,h => by simp [twos] at h;exact ⟨a,b,rfl,rfl,h.symm⟩
 | a :: b :: r,i + 1,x,h => by
   simp only [twos,List.getElem?_cons_succ] at h
   obtain ⟨c,d,h1,h2,h3⟩:=twos_get r i x h
   exact ⟨c,d,by rw [show 2 * (i + 1) = 2 * i + 1 + 1 by omega];simpa using h1,by rw [show 2 * (i + 1) + 1 = 2 * i + 1 + 1 + 1 by omega];simpa using h2,h3⟩
theorem ORep.frz {w : World} {O O' : Nat → Prop} {o : OV} {u : Value} {m : Option Nat} {β : Nat → Option Nat} (h : ORep w O o u m β) (hw : o.whole = true) (hO : ∀ k,O' k → O k)
 (hb : ∀ k,(m = some k ∨ ∃ j,β j = some k) → ¬ O' k) : RepV w O' o.frz u:=by
 cases h with
 | flat f u b h => exact h.frz hw hO fun k hk => hb k (.inl hk)
 | agg cs us β hl hk h =>
   have hw' : cs.all FV.whole = true:=hw
   refine .agg (cs.map FV.frz) us (fun j => us.getD j Go.undef) (by simp [hl]) (fun j y hj => ?_) (fun j y hj => ?_) (fun j y hj => ?_)
   · rw [List.getElem?_map,Option.map_eq_some_iff] at hj
     obtain ⟨f,hf,rfl⟩:=hj
     exact FV.frz_isCell (hk j f hf) (whole_of hw' hf)
   · rw [List.getElem?_map,Option.map_eq_some_iff] at hj
     obtain ⟨f,hf,rfl⟩:=hj
     obtain ⟨x,h1,_⟩:=h.rep j f hf
     simp only [Array.getD_eq_getD_getElem?]
     rw [h1];rfl
   · rw [List.getElem?_map,Option.map_eq_some_iff] at hj
     obtain ⟨f,hf,rfl⟩:=hj
     obtain ⟨x,h1,h2⟩:=h.rep j f hf
     simp only [Array.getD_eq_getD_getElem?]
     rw [h1]
     exact h2.frz (whole_of hw' hf) hO fun k hk => hb k (.inr ⟨j,hk⟩)
 | tup cs us β hl h => simp [OV.whole] at hw
 | tn => simp [OV.whole] at hw
 | box cs b cur e fr β hB ht hl hk h =>
   have hw' : cs.all FV.whole = true:=hw
   have hcs : (PV.agg (cs.map FV.frz)).cells = cs.map FV.frz:=rfl
   refine .ptr (some cs.length) (.agg (cs.map FV.frz)) ⟨b,0,none⟩ (fun j => cur.getD j Go.undef) (by simp [pvFits]) (fun j y hj => ?_) (fun _ _ _ => hb b (.inl rfl)) (fun j y hj => ?_) (fun j y hj => ?_)
   all_goals
    rw [hcs,List.getElem?_map,Option.map_eq_some_iff] at hj
    obtain ⟨f,hf,rfl⟩:=hj
    obtain ⟨x,h1,h2⟩:=h.rep j f hf
   · exact FV.frz_isCell (hk j f hf) (whole_of hw' hf)
   · rw [addr_add,cell_at hB,Nat.zero_add]
     simp only [Array.getD_eq_getD_getElem?]
     rw [h1];rfl
   · simp only [Array.getD_eq_getD_getElem?]
     rw [h1]
     exact h2.frz (whole_of hw' hf) hO fun k hk => hb k (.inr ⟨j,hk⟩)
 | entsE A =>
   cases A with
   | none => exact .slNil (some 2)
   | some a => exact .sl (some 2) [] a 0 (fun _ _ => Go.undef) (by simp) (by simp) (by simp) (by simp) (by simp) (by simp)
 | ents cs n b c cur e fr β hB ht hl hn hc hk hg h =>
   have hw' : cs.all FV.whole = true:=List.all_eq_true.2 fun f hf => by
    obtain ⟨j,hj⟩:=List.getElem?_of_mem hf
    exact hg j f hj
   have hlen : (twos (cs.map FV.frz)).length = n:=twos_len _ n (by simpa using hn)
   show RepV w O' (.sl (some 2) (twos (cs.map FV.frz))) _
   have hx : ∀ (i : Nat) (x : PV) (j : Nat) (y : PV),(twos (cs.map FV.frz))[i]? = some x → x.cells[j]? = some y → ∃ f,cs[i * 2 + j]? = some f ∧ y = f.frz:=by
    intro i x j y hi hj
    obtain ⟨a,d,h1,h2,rfl⟩:=twos_get _ i x hi
    rw [List.getElem?_map,Option.map_eq_some_iff] at h1 h2
    obtain ⟨f1,g1,rfl⟩:=h1
    obtain ⟨f2,g2,rfl⟩:=h2
    match j with
    | 0 => simp [PV.cells] at hj;exact ⟨f1,by rw [show i * 2 + 0 = 2 * i by omega];exact g1,hj.symm⟩
    | 1 => simp [PV.cells] at hj;exact ⟨f2,by rw [show i * 2 + 1 = 2 * i + 1 by omega];exact g2,hj.symm⟩
    | j + 2 => simp [PV.cells] at hj
   have hr:=RepV.sl (w:=w) (O:=O') (some 2) (twos (cs.map FV.frz)) ⟨b,0,none⟩ c (fun i j => cur.getD (i * 2 + j) Go.undef) (by rw [hlen];exact hc) (fun i x hi => by
    obtain ⟨a,d,_,_,rfl⟩:=twos_get _ i x hi
    rfl) (fun i x j y hi hj => by
    obtain ⟨f,hf,rfl⟩:=hx i x j y hi hj
    exact FV.frz_isCell (hk _ f hf) (whole_of hw' hf)) (fun _ _ _ _ _ _ => hb b (.inl rfl)) (fun i x j y hi hj => by
    obtain ⟨f,hf,rfl⟩:=hx i x j y hi hj
    obtain ⟨z,h1,_⟩:=h.rep _ f hf
    rw [addr_add,cell_at hB]
    simp only [shN,Nat.zero_add,Array.getD_eq_getD_getElem?]
    rw [h1];rfl) (fun i x j y hi hj => by
    obtain ⟨f,hf,rfl⟩:=hx i x j y hi hj
    obtain ⟨z,h1,h2⟩:=h.rep _ f hf
    simp only [Array.getD_eq_getD_getElem?]
    rw [h1]
    exact h2.frz (whole_of hw' hf) hO fun k hk => hb k (.inr ⟨_,hk⟩))
   rwa [hlen] at hr
 | nestE A =>
   cases A with
   | none => exact .slNil none
   | some a => exact .sl none [] a 0 (fun _ _ => Go.undef) (by simp) (by simp) (by simp) (by simp) (by simp) (by simp)
 | nest cs b c cur e fr β hB ht hl hc hk hg h =>
   have hlen : (cs.map FV.frz).length = cs.length:=by simp
   show RepV w O' (.sl none (cs.map FV.frz)) _
   rw [← hlen]
   have hx : ∀ (i : Nat) (x : PV),(cs.map FV.frz)[i]? = some x → ∃ f,cs[i]? = some f ∧ x = f.frz ∧ isCell x = true:=by
    intro i x hi
    rw [List.getElem?_map,Option.map_eq_some_iff] at hi
    obtain ⟨f,hf,rfl⟩:=hi
    exact ⟨f,hf,rfl,FV.frz_isCell (hk i f hf) (hg i f hf)⟩
   have hcell : ∀ (i : Nat) (x : PV) (j : Nat) (y : PV),(cs.map FV.frz)[i]? = some x → x.cells[j]? = some y → j = 0 ∧ y = x:=by
    intro i x j y hi hj
    obtain ⟨f,hf,_,hc⟩:=hx i x hi
    rw [cells_of_isCell hc] at hj
    cases j with
    | zero => simp at hj;exact ⟨rfl,hj.symm⟩
    | succ j => simp at hj
   refine .sl none (cs.map FV.frz) ⟨b,0,none⟩ c (fun i _ => cur.getD i Go.undef) (by simpa using hc) (fun i x hi => ?_) (fun i x j y hi hj => ?_) (fun _ _ _ _ _ _ => hb b (.inl rfl)) (fun i x j y hi hj => ?_) (fun i x j y hi hj => ?_)
   · obtain ⟨f,hf,_,hc⟩:=hx i x hi
     exact hc
   · obtain ⟨_,rfl⟩:=hcell i x j y hi hj
     obtain ⟨f,hf,_,hc⟩:=hx i _ hi
     exact hc
   · obtain ⟨rfl,rfl⟩:=hcell i x j y hi hj
     obtain ⟨f,hf,_,_⟩:=hx i _ hi
     obtain ⟨z,h1,_⟩:=h.rep i f hf
     rw [addr_add,cell_at hB]
     simp only [shN,Nat.mul_one,Nat.add_zero,Nat.zero_add,Array.getD_eq_getD_getElem?]
     rw [h1];rfl
   · obtain ⟨rfl,rfl⟩:=hcell i x j y hi hj
     obtain ⟨f,hf,rfl,_⟩:=hx i _ hi
     obtain ⟨z,h1,h2⟩:=h.rep i f hf
     simp only [Array.getD_eq_getD_getElem?]
     rw [h1]
     exact h2.frz (hg i f hf) hO fun k hk => hb k (.inr ⟨i,hk⟩)
end Go.Ev
namespace Go.Ev
theorem ORep.whole_pv {o : OV} {v : PV} (h : o.pv = some v) : o.whole = true ∧ v = o.frz:=by
 unfold OV.pv at h
 split at h
 · rename_i hw;exact ⟨hw,(Option.some.inj h).symm⟩
 · cases h
theorem RepV.slOf {w : World} {O : Nat → Prop} (sh : Option Nat) (xs : List PV) (a : Addr) (n c : Nat) (us : Nat → Nat → Value) (hn : xs.length = n) (hc : n ≤ c)
 (hf : ∀ (i : Nat) (x : PV),xs[i]? = some x → pvFits sh x = true)
 (hk : ∀ (i : Nat) (x : PV) (j : Nat) (y : PV),xs[i]? = some x → x.cells[j]? = some y → isCell y = true)
 (ho : ∀ (i : Nat) (x : PV) (j : Nat) (y : PV),xs[i]? = some x → x.cells[j]? = some y → ¬ O a.block)
 (hm : ∀ (i : Nat) (x : PV) (j : Nat) (y : PV),xs[i]? = some x → x.cells[j]? = some y → w.cell? (a.add (i * shN sh + j)) = some (us i j))
 (hr : ∀ (i : Nat) (x : PV) (j : Nat) (y : PV),xs[i]? = some x → x.cells[j]? = some y → RepV w O y (us i j)) : RepV w O (.sl sh xs) (.slice (some a) n c):=by
 subst hn
 exact .sl sh xs a c us hc hf hk ho hm hr
theorem place_rep {w : World} {O : Nat → Prop} {o x : OV} {v u : Value} {b : Option Nat → Option Nat} {c : Option Nat} (h : ORep w O o v (b none) (fun j => b (some j))) (hx : o.at c = some x)
 (hp : PathV w v o c u) : ∃ m β,ORep w O x u m β ∧ (∀ k,(m = some k ∨ ∃ j,β j = some k) → ∃ c,b c = some k) ∧ (c ≠ none → ∃ j,c = some j ∧ m = b (some j) ∧ ∀ j,β j = none):=by
 cases c with
 | none =>
   simp only [OV.at,Option.some.injEq] at hx
   subst hx
   rw [hp.top_eq]
   exact ⟨_,_,h,fun k hk => by rcases hk with hk | ⟨j,hk⟩ <;> exact ⟨_,hk⟩,fun e => absurd rfl e⟩
 | some j =>
   obtain ⟨k,cs,f,rfl,hj,rfl⟩:=at_cont hx
   obtain ⟨z,hz,hf⟩:=h.cellAt hj
   rw [hp.uniq hz]
   refine ⟨_,_,.flat f z _ hf,fun k hk => ?_,fun _ => ⟨j,rfl,rfl,fun _ => rfl⟩⟩
   rcases hk with hk | ⟨j,hk⟩
   · exact ⟨_,hk⟩
   · cases hk
theorem PathV.cell_of {w : World} {O : Nat → Prop} {k : CK} {cs : List FV} {v u : Value} {m : Option Nat} {β : Nat → Option Nat} (h : ORep w O (.cont k cs) v m β) {j : Nat} {f : FV} (hj : cs[j]? = some f)
 (hp : PathV w v (.cont k cs) (some j) u) : FRep w O f u (β j):=by
 obtain ⟨z,hz,hf⟩:=h.cellAt hj
 rw [hp.uniq hz];exact hf
theorem ORep.cellOk {w : World} {O : Nat → Prop} {k : CK} {cs : List FV} {v : Value} {m : Option Nat} {β : Nat → Option Nat} (h : ORep w O (.cont k cs) v m β) (hk : k ≠ .tup) {j : Nat} {f : FV} (hj : cs[j]? = some f) : f.cellOk:=by
 cases h with
 | agg _ _ _ _ hh => exact hh j f hj
 | tup => exact absurd rfl hk
 | box _ _ _ _ _ _ _ _ _ hh => exact hh j f hj
 | nestE => simp at hj
 | entsE => simp at hj
 | ents _ _ _ _ _ _ _ _ _ _ _ _ _ hh _ => exact hh j f hj
 | nest _ _ _ _ _ _ _ _ _ _ _ hh => exact hh j f hj
def placeOwns (blk : Blk) (s : Nat) : Option Nat → Nat → Prop
 | none,k => blk.at s k
 | some j,k => blk s (some j) = some k
def Arg.owns (a : Arg) (blk : Blk) (k : Nat) : Prop :=
 match a.sv with
 | .ref s c | .view s c _ _ => placeOwns blk s c k
 | .rng s j n => ∃ q,j ≤ q ∧ q < j + n ∧ blk s (some q) = some k
 | _ => False
def lent (O : Nat → Prop) (blk : Blk) (a : Arg) (k : Nat) : Prop:=O k ∧ ¬ a.owns blk k
theorem owns_place {s : Nat} {c : Option Nat} {blk : Blk} {m : Option Nat} {β : Nat → Option Nat}
 (g2 : ∀ k,(m = some k ∨ ∃ j,β j = some k) → ∃ c,blk s c = some k) (g3 : c ≠ none → ∃ j,c = some j ∧ m = blk s (some j) ∧ ∀ j,β j = none) (k : Nat) (hk : m = some k ∨ ∃ j,β j = some k) :
 placeOwns blk s c k:=by
 cases c with
 | none => exact g2 k hk
 | some j =>
   obtain ⟨j',e,h1,h2⟩:=g3 (by simp)
   cases e
   show blk s (some j) = some k
   rcases hk with hk | ⟨q,hk⟩
   · rw [← h1];exact hk
   · rw [h2] at hk;cases hk
theorem arg_pv {w : World} {Oc : Nat → Prop} {st : Slots} {tm : Nat → Value} {blk : Blk} (h : SRel w Oc st tm blk) {a : Arg} {u : Value} {v : PV}
 (ha : ArgRep w (blk.off Oc) st tm a u) (hp : a.pv = some v) : RepV w (lent (blk.off Oc) blk a) v u:=by
 obtain ⟨sv,rt⟩:=a
 cases sv with
 | dead => simp [Arg.pv] at hp
 | home o =>
   obtain ⟨hw,rfl⟩:=ORep.whole_pv (show o.pv = some v from hp)
   exact ORep.frz (m:=none) (β := fun _ => none) ha.rep hw (fun k hk => hk.1) (by simp)
 | fadr sh p =>
   simp only [Arg.pv,Option.some.injEq] at hp
   subst hp
   exact ha.rep.2.move fun k _ hno => ⟨rfl,fun x => hno x.1⟩
 | adr s j => simp [Arg.pv] at hp
 | adrx s j => simp [Arg.pv] at hp
 | adre s c i off => simp [Arg.pv] at hp
 | ref s c =>
   obtain ⟨o,ho⟩:=ha.some_ s rfl
   dsimp only at ho
   subst ho
   obtain ⟨hg,_⟩:=ha.root s o rfl
   have hrep:=h.rep s
   rw [hg] at hrep
   obtain ⟨⟨x,hx⟩,hpath⟩:=ha.rep.2 o hg
   simp only [Arg.pv,hx] at hp
   obtain ⟨hw,rfl⟩:=ORep.whole_pv hp
   obtain ⟨m,β,h1,h2,h3⟩:=place_rep (b:=blk s) hrep hx hpath
   refine h1.frz hw (fun k hk => hk.1) fun k hk hl => hl.2 ?_
   exact owns_place h2 h3 k hk
 | view s c l e =>
   obtain ⟨o,ho⟩:=ha.some_ s rfl
   dsimp only at ho
   subst ho
   obtain ⟨hg,_⟩:=ha.root s o rfl
   have hrep:=h.rep s
   rw [hg] at hrep
   simp only [Arg.pv,Arg.row] at hp
   split at hp
   · rename_i sh xs' hrow
     split at hrow
     · rename_i sh' xs sp hx
       simp only [Option.some.injEq,Prod.mk.injEq] at hrow
       obtain ⟨rfl,rfl⟩:=hrow
       simp only [Option.some.injEq] at hp
       subst hp
       obtain ⟨h1,h2,x,hpath,hv⟩:=ha.rep.2 o sh' xs sp hg hx
       have hlen : ((xs.drop l).take (e - l)).length = e - l:=by simp;omega
       rcases hv with ⟨b,n,cap,c',hb,hx2,hu,hc',_⟩ | ⟨rfl,A,c',hu,hA⟩
       · subst hu
         obtain ⟨m,β,g1,g2,g4⟩:=place_rep (b:=blk s) hrep hx hpath
         obtain ⟨g3,_⟩:=g1.flat_inv
         subst hx2
         cases g3 with
         | ownE sh A =>
           simp at h2
           refine .slOf _ _ _ _ _ (fun _ _ => Go.undef) hlen hc' ?_ ?_ ?_ ?_ ?_ <;> simp
         | own _ _ _ _ _ cur ty fr us hown =>
           have hidx : ∀ i y,((xs.drop l).take (e - l))[i]? = some y → xs[l + i]? = some y:=by
            intro i y hi
            rw [List.getElem?_take] at hi
            split at hi
            · rw [List.getElem?_drop] at hi;exact hi
            · cases hi
           refine .slOf _ _ ⟨b,l * shN sh',none⟩ _ c' (fun i j => us (l + i) j) hlen hc' (fun i y hi => hown.fits _ _ (hidx i y hi)) (fun i y j z hi hj => hown.cell _ _ _ _ (hidx i y hi) hj)
            (fun i y j z hi hj hl => hl.2 (owns_place g2 g4 b (.inl rfl))) (fun i y j z hi hj => ?_) (fun i y j z hi hj => ?_)
           · rw [addr_add,cell_at hown.heap,← hown.at_ _ _ _ _ (hidx i y hi) hj,Nat.add_mul,Nat.add_assoc]
           · exact (hown.rep _ _ _ _ (hidx i y hi) hj).move fun k _ hno => ⟨rfl,fun q => hno q.1⟩
       · subst hu
         have : (xs.drop e).take (e - e) = []:=by simp
         rw [this]
         cases A with
         | none =>
           rw [hA]
           exact .slNil _
         | some a => exact .sl _ [] a c' (fun _ _ => Go.undef) (by simp) (by simp) (by simp) (by simp) (by simp) (by simp)
     · cases hrow
   · cases hp
 | rng s j n =>
   obtain ⟨o,ho⟩:=ha.some_ s rfl
   dsimp only at ho
   subst ho
   obtain ⟨hg,_⟩:=ha.root s o rfl
   have hrep:=h.rep s
   rw [hg] at hrep
   obtain ⟨⟨k,cs,rfl,hl,hkt⟩,us,rfl,hus,hcell⟩:=ha.rep.2 o hg
   simp only [Arg.pv] at hp
   split at hp
   · rename_i hb
     simp only [Option.some.injEq] at hp
     subst hp
     simp only [Bool.and_eq_true] at hb
     obtain ⟨_,hwh⟩:=hb
     have hidx : ∀ q f,((cs.drop j).take n)[q]? = some f → q < n ∧ cs[j + q]? = some f:=by
      intro q f hq
      rw [List.getElem?_take] at hq
      split at hq
      · rename_i hqn;rw [List.getElem?_drop] at hq;exact ⟨hqn,hq⟩
      · cases hq
     have hcells : ∀ q y,(((cs.drop j).take n).map FV.frz)[q]? = some y → ∃ f x,q < n ∧ cs[j + q]? = some f ∧ y = f.frz ∧ f.whole = true ∧ us[q]? = some x ∧ FRep w (blk.off Oc) f x (blk s (some (j + q))) ∧ isCell y = true:=by
      intro q y hq
      rw [List.getElem?_map,Option.map_eq_some_iff] at hq
      obtain ⟨f,hf,rfl⟩:=hq
      obtain ⟨hqn,hcs⟩:=hidx q f hf
      obtain ⟨x,hx1,hx2⟩:=hcell q hqn
      have hwf:=whole_of hwh hf
      have hk : f.cellOk:=ORep.cellOk hrep hkt hcs
      exact ⟨f,x,hqn,hcs,rfl,hwf,hx1,PathV.cell_of hrep hcs hx2,FV.frz_isCell hk hwf⟩
     refine .agg _ us (fun q => us.getD q Go.undef) (by simp;omega) (fun q y hq => ?_) (fun q y hq => ?_) (fun q y hq => ?_)
     all_goals obtain ⟨f,x,hqn,hcs,rfl,hwf,hx1,hx2,hc⟩:=hcells q y hq
     · exact hc
     · simp only [Array.getD_eq_getD_getElem?];rw [hx1];rfl
     · simp only [Array.getD_eq_getD_getElem?];rw [hx1]
       exact hx2.frz hwf (fun k hk => hk.1) fun k hk hl => hl.2 ⟨j + q,by omega,by omega,hk⟩
   · cases hp
theorem without_sub {b : Option Nat → Option Nat} {p : Nat → Bool} {c : Option Nat} {x : Nat} (h : without b p c = some x) : b c = some x ∧ ∀ j,c = some j → p j = false:=by
 cases c with
 | none => exact ⟨h,by simp⟩
 | some j =>
   simp only [without] at h
   split at h
   · cases h
   · rename_i hp;exact ⟨h,fun j' e => by cases e;exact hp⟩
theorem setAt_val {s : Nat} {o : OV} {c : Option Nat} {v : PV} {e : Edit} (h : setAt s o c (.val v) = some e) :
 (c = none ∧ e = ⟨s,.home (.val v),.all⟩) ∨ ∃ j k cs,c = some j ∧ o = .cont k cs ∧ e = ⟨s,.home (.cont k (cs.set j (.val v))),.cells j 1⟩:=by
 cases c with
 | none => left;simp only [setAt,Option.some.injEq] at h;exact ⟨rfl,h.symm⟩
 | some j =>
   right
   cases o with
   | flat f => simp [setAt] at h
   | tn => simp [setAt] at h
   | cont k cs =>
     refine ⟨j,k,cs,rfl,rfl,?_⟩
     cases k <;> simp_all [setAt]
theorem freeze_place {w : World} {Oc : Nat → Prop} {st : Slots} {tm : Nat → Value} {blk : Blk} (h : SRel w Oc st tm blk) {s : Nat} {c : Option Nat} {o x : OV} {v : PV} {e : Edit}
 (hg : st.get s = .home o) (hx : o.at c = some x) (hv : x.pv = some v) (he : setAt s o c (.val v) = some e) :
 ∃ blk',SRel w Oc (e.on st) tm blk' ∧ (∀ t c' k,blk' t c' = some k → blk t c' = some k ∧ ¬ placeOwns blk s c k) ∧ (∀ t,t ≠ s → blk' t = blk t):=by
 have hrep:=h.rep s
 rw [hg] at hrep
 obtain ⟨hw,rfl⟩:=ORep.whole_pv hv
 rcases setAt_val he with ⟨rfl,rfl⟩ | ⟨j,k,cs,rfl,rfl,rfl⟩
 · simp only [OV.at,Option.some.injEq] at hx
   subst hx
   have key:=SRel.edit (w':=w) (Oc':=Oc) h ⟨s,.home (.val o.frz),.all⟩ (tm s) (fun _ => none) (Nat.le_refl _) (fun _ _ _ _ => rfl) (fun k _ x => .inl x) (by simp) (by simp)
    (by
      refine .flat _ _ _ (.val _ _ (hrep.frz hw ?_ ?_))
      · rintro k (⟨t,c,hh⟩ | hh)
        · by_cases ht : t = s
          · subst ht;rw [updN_same] at hh;cases hh
          · rw [updN_ne _ _ ht] at hh;exact .inl ⟨t,c,hh⟩
        · exact .inr hh
      · intro k hk hoff
        have hat : blk.at s k:=by rcases hk with hk | ⟨j,hk⟩ <;> exact ⟨_,hk⟩
        obtain ⟨c0,hc0⟩:=hat
        rcases hoff with ⟨t,c,hh⟩ | hh
        · by_cases ht : t = s
          · subst ht;rw [updN_same] at hh;cases hh
          · rw [updN_ne _ _ ht] at hh;exact ht (h.inj _ _ _ _ _ hh hc0).1
        · exact (h.out _ _ _ hc0).1 hh)
    (fun t ht hroot _ => by rw [get_on] at hroot;exact absurd hroot (cutAll_root _ _))
   rw [updN_self] at key
   refine ⟨_,key,fun t c' k hk => ?_,fun t ht => updN_ne _ _ ht⟩
   by_cases ht : t = s
   · subst ht;rw [updN_same] at hk;cases hk
   · rw [updN_ne _ _ ht] at hk
     exact ⟨hk,fun ⟨c2,h2⟩ => ht (h.inj _ _ _ _ _ hk h2).1⟩
 · obtain ⟨k',cs',f,he',hj,rfl⟩:=at_cont hx
   cases he'
   have hlt : j < cs.length:=(List.getElem?_eq_some_iff.1 hj).1
   have hbj : without (blk s) (fun q => Nat.beq q j) (some j) = none:=by simp [without]
   have hbne : ∀ q,q ≠ j → without (blk s) (fun q => Nat.beq q j) (some q) = blk s (some q):=fun q hq => by simp [without,nbeq hq]
   have key:=SRel.recell (Oc':=Oc) (lo:=j) (n:=1) (cs':=cs.set j (.val f.frz)) (b':=without (blk s) (fun q => Nat.beq q j)) h hg (by simp)
    (fun q hq => ⟨by rw [List.getElem?_set_ne (by omega)],hbne q (by omega)⟩) rfl
    (fun q f0 f' z h1 h2 hf0 hf hz => by
      obtain rfl : q = j:=by omega
      rw [List.getElem?_set_self hlt] at hf
      cases hf
      rw [hj] at hf0
      cases hf0
      rw [hbj]
      refine .val _ _ (hz.frz hw ?_ ?_)
      · rintro k (⟨t,c,hh⟩ | hh)
        · by_cases ht : t = s
          · subst ht;rw [updN_same] at hh;exact .inl ⟨t,c,(without_sub hh).1⟩
          · rw [updN_ne _ _ ht] at hh;exact .inl ⟨t,c,hh⟩
        · exact .inr hh
      · rintro k hk (⟨t,c,hh⟩ | hh)
        · by_cases ht : t = s
          · subst ht
            rw [updN_same] at hh
            have:=(h.inj _ _ _ _ _ (without_sub hh).1 hk).2
            subst this
            rw [hbj] at hh;cases hh
          · rw [updN_ne _ _ ht] at hh;exact ht (h.inj _ _ _ _ _ hh hk).1
        · exact (h.out _ _ _ hk).1 hh)
    (fun q f' h1 h2 hf hok hkt => by
      obtain rfl : q = j:=by omega
      rw [List.getElem?_set_self hlt] at hf
      cases hf
      exact FV.frz_isCell (hok f hj hkt) hw)
    (fun _ q f' h1 h2 hf => by
      obtain rfl : q = j:=by omega
      rw [List.getElem?_set_self hlt] at hf
      cases hf
      rfl)
    (fun c x hx => (without_sub hx).1) (fun x _ hx => .inl hx)
   refine ⟨_,key,fun t c' k hk => ?_,fun t ht => updN_ne _ _ ht⟩
   by_cases ht : t = s
   · subst ht
     rw [updN_same] at hk
     refine ⟨(without_sub hk).1,fun h2 => ?_⟩
     have:=(h.inj _ _ _ _ _ (without_sub hk).1 h2).2
     subst this
     rw [hbj] at hk;cases hk
   · rw [updN_ne _ _ ht] at hk
     exact ⟨hk,fun h2 => ht (h.inj _ _ _ _ _ hk h2).1⟩
end Go.Ev

namespace Go.Ev
structure Grow (w w' : World) (blk : Blk) : Prop where
 os : w'.os = w.os
 tape : w'.tape = w.tape
 output : w'.output = w.output
 size : w.heap.size ≤ w'.heap.size
 same : ∀ k,k < w.heap.size → ¬ blk.has k → w'.heap[k]? = w.heap[k]?
theorem Grow.refl (w : World) (blk : Blk) : Grow w w blk:=⟨rfl,rfl,rfl,Nat.le_refl _,fun _ _ _ => rfl⟩
structure Gives (P : Program) (s : Sem Next) (w : World) (Oc : Nat → Prop) (st : Slots) (tm : Nat → Value) (blk : Blk) (r : List Edit × SV) : Prop where
 ex : ∃ nx u w' blk' pb,s.run P w = .ok nx w' ∧ (nx = .value u ∨ (nx = .skip ∧ u = Go.undef)) ∧ Grow w w' blk ∧ Pend w' Oc (edits r.1 st) tm blk' r.2 u pb ∧
  (∀ t c k,blk' t c = some k → blk.has k ∨ w.heap.size ≤ k) ∧ (∀ c k,pb c = some k → blk.has k ∨ w.heap.size ≤ k)
theorem subHas {blk blk' : Blk} {n : Nat} (h : ∀ t c k,blk' t c = some k → blk t c = some k) (t : Nat) (c : Option Nat) (k : Nat) (hk : blk' t c = some k) : blk.has k ∨ n ≤ k := .inl ⟨t,c,h t c k hk⟩
theorem quiet_pend {w : World} {Oc : Nat → Prop} {st : Slots} {tm : Nat → Value} {blk : Blk} (h : SRel w Oc st tm blk) {v : SV} {u : Value} (hv : SVRep w (blk.off Oc) st tm v u (fun _ => none)) :
 Pend w Oc st tm blk v u (fun _ => none):=by
 refine ⟨h.world (Nat.le_refl _) (fun _ _ _ => rfl) (fun k _ x => ?_),by simp,by simp,?_⟩
 · rcases x with x | ⟨_,x⟩
   · exact x
   · cases x
 · refine hv.move ⟨fun k _ hno => ⟨rfl,?_⟩,fun _ _ => rfl⟩ (fun s _ o ho => ⟨ho,rfl,fun _ _ _ _ _ _ => rfl⟩)
   rintro (x | x | ⟨_,x⟩)
   · exact hno (.inl x)
   · exact hno (.inr x)
   · cases x
theorem Gives.quiet {P : Program} {s : Sem Next} {w : World} {Oc : Nat → Prop} {st : Slots} {tm : Nat → Value} {blk : Blk} {v : SV} {u : Value} (h : SRel w Oc st tm blk)
 (hs : s.run P w = .ok (.value u) w) (hv : SVRep w (blk.off Oc) st tm v u (fun _ => none)) : Gives P s w Oc st tm blk ([],v) :=
 ⟨⟨_,u,w,blk,_,hs,.inl rfl,Grow.refl _ _,quiet_pend h hv,subHas (fun _ _ _ x => x),by simp⟩⟩
theorem Gives.val {P : Program} {s : Sem Next} {w : World} {Oc : Nat → Prop} {st : Slots} {tm : Nat → Value} {blk : Blk} {v : PV} {u : Value} (h : SRel w Oc st tm blk)
 (hs : s.run P w = .ok (.value u) w) (hv : RepV w (blk.off Oc) v u) : Gives P s w Oc st tm blk ([],.val v) :=
 .quiet h hs (.flat _ _ _ (.val _ _ hv))
section
variable {w : World} {O : Nat → Prop} {u : Value}
theorem RepV.int_inv {k : IntKind} {n : Int} (h : RepV w O (.int k n) u) : u = .int k n:=by cases h;rfl
theorem RepV.bool_inv {b : Bool} (h : RepV w O (.bool b) u) : u = .bool b:=by cases h;rfl
theorem RepV.str_inv {s : List UInt8} (h : RepV w O (.str s) u) : ∃ b : ByteArray,u = .string b ∧ b.data.toList = s:=by cases h with | str b => exact ⟨b,rfl,rfl⟩
end
theorem ArgRep.val {w : World} {O : Nat → Prop} {st : Slots} {tm : Nat → Value} {a : Arg} {u : Value} {v : PV} (h : ArgRep w O st tm a u) (hv : a.sv = .home (.flat (.val v))) : RepV w O v u:=by
 have:=h.rep
 rw [hv] at this
 exact (ORep.flat_inv this).1.val_inv.1
theorem ArgRep.int {w : World} {O : Nat → Prop} {st : Slots} {tm : Nat → Value} {a : Arg} {u : Value} {n : Int} (h : ArgRep w O st tm a u) (hn : a.int = some n) : ∃ k,u = .int k n:=by
 unfold Arg.int at hn
 split at hn
 · rename_i k n' hv
   cases hn
   exact ⟨k,(h.val hv).int_inv⟩
 · cases hn
theorem ArgRep.bool {w : World} {O : Nat → Prop} {st : Slots} {tm : Nat → Value} {a : Arg} {u : Value} {b : Bool} (h : ArgRep w O st tm a u) (hn : a.bool = some b) : u = .bool b:=by
 unfold Arg.bool at hn
 split at hn
 · rename_i b' hv
   cases hn
   exact (h.val hv).bool_inv
 · cases hn
def Q.holds {α : Type} (q : Q α) (r : α) : Prop:=q.2 = some r ∧ ∀ c ∈ q.1,c = true
theorem Q.holds_ok {α : Type} {a r : α} (h : (ok a).holds r) : r = a:=by
 obtain ⟨h,_⟩:=h;simpa [ok] using h.symm
theorem Q.holds_no {α : Type} {r : α} (h : (no : Q α).holds r) : False:=by
 obtain ⟨h,_⟩:=h;simp [no] at h
theorem Q.holds_need {α : Type} {c : Bool} {q : Q α} {r : α} (h : (need c q).holds r) : c = true ∧ q.holds r:=by
 obtain ⟨h1,h2⟩:=h
 exact ⟨h2 c (by simp [need]),h1,fun x hx => h2 x (by simp [need,hx])⟩
theorem Q.holds_quiet {v : SV} {r : List Edit × SV} (h : (quiet v).holds r) : r = ([],v):=Q.holds_ok h
theorem Q.holds_quietP {v : PV} {r : List Edit × SV} (h : (quietP v).holds r) : r = ([],.val v):=Q.holds_ok h
theorem Q.holds_withA {α β : Type} {a : Option α} {f : α → Q β} {r : β} (h : (withA a f).holds r) : ∃ x,a = some x ∧ (f x).holds r:=by
 unfold withA at h
 split at h
 · exact ⟨_,rfl,h⟩
 · exact (Q.holds_no h).elim
section
variable {P : Program} {w : World} {Oc : Nat → Prop} {st : Slots} {tm : Nat → Value} {blk : Blk} {act : Act} {r : List Edit × SV}
theorem sim_move (h : SRel w Oc st tm blk) {a : Arg} {u : Value} (ha : ArgRep w (blk.off Oc) st tm a u) (hr : (cMove a).holds r) {s : Sem Next} (hs : s.run P w = .ok (.value u) w) :
 Gives P s w Oc st tm blk r:=by
 cases Q.holds_quiet hr
 exact .quiet h hs ha.rep
theorem sim_assign (h : SRel w Oc st tm blk) {a : Arg} {u : Value} (ha : ArgRep w (blk.off Oc) st tm a u) (hr : (cAssign a).holds r) {s : Sem Next} (hs : s.run P w = .ok (.value u) w) :
 Gives P s w Oc st tm blk r:=by
 obtain ⟨sv,rt⟩:=a
 unfold cAssign at hr
 split at hr
 · rename_i x1 x2 s' x3 o hsv hrt
   dsimp only at hsv hrt
   subst hsv;subst hrt
   split at hr
   · rename_i es ht
     cases Q.holds_ok hr
     obtain ⟨blk',pb,h1,h2,h3⟩:=take_rep h ha (o:=o) rfl ht
     exact ⟨⟨_,u,w,blk',pb,hs,.inl rfl,Grow.refl _ _,h1,subHas h2,fun c k hk => .inl (h3 c k hk)⟩⟩
   · exact (Q.holds_no hr).elim
 · rename_i x1 x2 s' j x3 cs hsv hrt
   dsimp only at hsv hrt
   subst hsv;subst hrt
   split at hr
   · rename_i f es hj ht
     cases Q.holds_ok hr
     obtain ⟨blk',pb,h1,h2,h3⟩:=take_rep h ha (o := .flat f) (by simp [Arg.ov,OV.at,hj]) ht
     exact ⟨⟨_,u,w,blk',pb,hs,.inl rfl,Grow.refl _ _,h1,subHas h2,fun c k hk => .inl (h3 c k hk)⟩⟩
   · exact (Q.holds_no hr).elim
 · cases Q.holds_quiet hr
   exact .quiet h hs ha.rep
end
end Go.Ev

namespace Go.Ev
section
variable {P : Program} {w : World} {O : Nat → Prop}
theorem intOp_run {op : BinOp} {k : IntKind} {a b : Int} {v : PV} (h : (intOp op k a b).holds v) (hop : op ≠ .shl ∧ op ≠ .shr) (xt : TypeId) :
 ∃ u,(binOp op xt (.int k a) (.int k b)).run P w = .ok u w ∧ RepV w O v u:=by
 cases op
 case add => cases Q.holds_ok h;exact ⟨_,by simp [binOp,Op.intArith],.int _ _⟩
 case sub => cases Q.holds_ok h;exact ⟨_,by simp [binOp,Op.intArith],.int _ _⟩
 case mul => cases Q.holds_ok h;exact ⟨_,by simp [binOp,Op.intArith],.int _ _⟩
 case quo =>
  obtain ⟨hb,h⟩:=Q.holds_need h
  cases Q.holds_ok h
  have hb : ¬ b = 0:=by simpa using hb
  exact ⟨_,by simp [binOp,Op.intDiv,hb],.int _ _⟩
 case rem =>
  obtain ⟨hb,h⟩:=Q.holds_need h
  cases Q.holds_ok h
  have hb : ¬ b = 0:=by simpa using hb
  exact ⟨_,by simp [binOp,Op.intDiv,hb],.int _ _⟩
 case and => cases Q.holds_ok h;exact ⟨_,by simp [binOp,Op.intBits],.int _ _⟩
 case or => cases Q.holds_ok h;exact ⟨_,by simp [binOp,Op.intBits],.int _ _⟩
 case xor => cases Q.holds_ok h;exact ⟨_,by simp [binOp,Op.intBits],.int _ _⟩
 case shl => exact absurd rfl hop.1
 case shr => exact absurd rfl hop.2
 case andNot => cases Q.holds_ok h;exact ⟨_,by simp [binOp,Op.intBits],.int _ _⟩
 case eql => cases Q.holds_ok h;exact ⟨_,by simp [binOp,Op.intCmp],.bool _⟩
 case neq => cases Q.holds_ok h;exact ⟨_,by simp [binOp,Op.intCmp],.bool _⟩
 case lss => cases Q.holds_ok h;exact ⟨_,by simp [binOp,Op.intCmp],.bool _⟩
 case leq => cases Q.holds_ok h;exact ⟨_,by simp [binOp,Op.intCmp],.bool _⟩
 case gtr => cases Q.holds_ok h;exact ⟨_,by simp [binOp,Op.intCmp],.bool _⟩
 case geq => cases Q.holds_ok h;exact ⟨_,by simp [binOp,Op.intCmp],.bool _⟩
theorem shl_run {k l : IntKind} {a b : Int} (h : 0 ≤ b) (xt : TypeId) : ∃ u,(binOp .shl xt (.int k a) (.int l b)).run P w = .ok u w ∧ RepV w O (shl k a b) u:=by
 have : ¬ b < 0:=by omega
 exact ⟨_,by simp [binOp,Op.shift,this],.int _ _⟩
theorem shr_run {k l : IntKind} {a b : Int} (h : 0 ≤ b) (xt : TypeId) : ∃ u,(binOp .shr xt (.int k a) (.int l b)).run P w = .ok u w ∧ RepV w O (shr k a b) u:=by
 have : ¬ b < 0:=by omega
 exact ⟨_,by simp [binOp,Op.shift,this],.int _ _⟩
theorem strOp_run {op : BinOp} {x y : ByteArray} {v : PV} (h : (strOp op x.data.toList y.data.toList).holds v) (xt : TypeId) :
 ∃ u,(binOp op xt (.string x) (.string y)).run P w = .ok u w ∧ RepV w O v u:=by
 have hl : ∀ b : ByteArray,b.data.toList = b.toList:=fun b => (ByteArray.toList_eq b).symm
 cases op
 case add =>
  obtain ⟨hb,h⟩:=Q.holds_need h
  cases Q.holds_ok h
  have hb : x.size + y.size ≤ 9223372036854775807:=by
   have:=Nat.le_of_ble_eq_true hb
   simpa using this
  have hn : ¬ (((x.size + y.size : Nat) : Int) > IntKind.i64.max):=by
   have : IntKind.i64.max = 9223372036854775807:=rfl
   rw [this];omega
  refine ⟨.string (x ++ y),by simp only [binOp,Op.stringOp];rw [if_neg hn];rfl,?_⟩
  have:=RepV.str (w:=w) (O:=O) (x ++ y)
  simpa using this
 case eql => cases Q.holds_ok h;exact ⟨.bool (x.toList == y.toList),by simp [binOp,Op.stringOp],by rw [hl x,hl y];exact .bool _⟩
 case neq => cases Q.holds_ok h;exact ⟨.bool (!(x.toList == y.toList)),by simp [binOp,Op.stringOp],by rw [hl x,hl y];exact .bool _⟩
 case lss => cases Q.holds_ok h;exact ⟨.bool (Op.bytesLess x.toList y.toList),by simp [binOp,Op.stringOp],by rw [hl x,hl y];exact .bool _⟩
 case leq => cases Q.holds_ok h;exact ⟨.bool (Op.bytesLess x.toList y.toList || x.toList == y.toList),by simp [binOp,Op.stringOp],by rw [hl x,hl y];exact .bool _⟩
 case gtr => cases Q.holds_ok h;exact ⟨.bool (!(Op.bytesLess x.toList y.toList || x.toList == y.toList)),by simp [binOp,Op.stringOp],by rw [hl x,hl y];exact .bool _⟩
 case geq => cases Q.holds_ok h;exact ⟨.bool (!(Op.bytesLess x.toList y.toList)),by simp [binOp,Op.stringOp],by rw [hl x,hl y];exact .bool _⟩
 all_goals exact (Q.holds_no h).elim
end
end Go.Ev

namespace Go.Ev
theorem run_underlying' {P : Program} {w : World} {t : TypeId} {d : TypeDesc} (h : P.underlying t = some d) : (underlying t).run P w = .ok d w:=by
 simp [underlying,run_program,h]
theorem run_sizeOf' {P : Program} {w : World} {t : TypeId} {i : TypeInfo} (h : P.info? t = some i) : (sizeOf t).run P w = .ok i.size w:=by
 simp [sizeOf,typeInfo,run_program,h]
theorem run_isAgg_no {P : Program} {w : World} {t : TypeId} {d : TypeDesc} (h : P.underlying t = some d) (hs : ∀ fs,d ≠ .struct fs) (ha : ∀ n e,d ≠ .array n e) : (Go.isAgg t).run P w = .ok false w:=by
 cases d <;> first | exact absurd rfl (hs _) | exact absurd rfl (ha _ _) | simp [Go.isAgg,run_underlying' h]
theorem run_isAgg_struct {P : Program} {w : World} {t : TypeId} {fs : Array Field} (h : P.underlying t = some (.struct fs)) : (Go.isAgg t).run P w = .ok true w:=by
 simp [Go.isAgg,run_underlying' h]
theorem run_isAgg_array {P : Program} {w : World} {t : TypeId} {n : Nat} {e : TypeId} (h : P.underlying t = some (.array n e)) : (Go.isAgg t).run P w = .ok true w:=by
 simp [Go.isAgg,run_underlying' h]
structure CellsOf (w : World) (O : Nat → Prop) (cs : List PV) (xs : Array Value) : Prop where
 size : xs.size = cs.length
 rep : ∀ (j : Nat) (y : PV),cs[j]? = some y → ∃ u,xs[j]? = some u ∧ RepV w O y u
theorem RepV.agg_cells {w : World} {O : Nat → Prop} {cs : List PV} {u : Value} (h : RepV w O (.agg cs) u) : ∃ xs,u = .agg xs ∧ CellsOf w O cs xs:=by
 cases h with
 | agg cs vs us hl hk hm hr => exact ⟨vs,rfl,hl,fun j y hj => ⟨_,hm j y hj,hr j y hj⟩⟩
section
variable {P : Program} {w : World} {O : Nat → Prop}
theorem part_scalar {t : TypeId} {d : TypeDesc} (h : P.underlying t = some d) (hs : ∀ fs,d ≠ .struct fs) (ha : ∀ n e,d ≠ .array n e) {xs : Array Value} {off : Nat} {u : Value} (hu : xs[off]? = some u) :
 (part t xs off).run P w = .ok u w:=by
 simp only [part,Sem.run_bind,run_isAgg_no h hs ha,Result.andThen_ok]
 simp [hu]
theorem part_struct {t : TypeId} {fs : Array Field} {i : TypeInfo} (h : P.underlying t = some (.struct fs)) (hi : P.info? t = some i) (xs : Array Value) (off : Nat) :
 (part t xs off).run P w = .ok (.agg (xs.extract off (off + i.size))) w:=by
 simp only [part,Sem.run_bind,run_isAgg_struct h,Result.andThen_ok]
 simp [run_sizeOf' hi]
theorem cellsOf_part {cs : List PV} {xs : Array Value} (h : CellsOf w O cs xs) (off n : Nat) : CellsOf w O ((cs.drop off).take n) (xs.extract off (off + n)):=by
 refine ⟨?_,fun j y hj => ?_⟩
 · simp [h.size];omega
 · rw [List.getElem?_take] at hj
   split at hj
   · rename_i hjn
     rw [List.getElem?_drop] at hj
     obtain ⟨u,h1,h2⟩:=h.rep _ _ hj
     have hlt : off + j < xs.size:=(Array.getElem?_eq_some_iff.1 h1).1
     refine ⟨u,?_,h2⟩
     rw [Array.getElem?_extract,if_pos (by omega)]
     exact h1
   · cases hj
def PartOf (P : Program) (w : World) (O : Nat → Prop) (t : TypeId) (cs : List PV) (u : Value) : Prop :=
 match P.underlying t with
 | some (.struct _) => ∃ xs,u = .agg xs ∧ CellsOf w O cs xs
 | _ => ∃ x,cs = [x] ∧ RepV w O x u
theorem fieldsOf_struct {t : TypeId} {fs : Array Field} (h : P.underlying t = some (.struct fs)) : P.fieldsOf t = fs:=by
 simp [Program.fieldsOf,h]
theorem eqT_run (d : Nat) : ∀ t n a b u v r,d ≤ n → eqT P d t a b = some r → PartOf P w O t a u → PartOf P w O t b v → (Op.equalIn n t u v).run P w = .ok r w:=by
 induction d with
 | zero => intro t n a b u v r _ h;simp [eqT] at h
 | succ d ih =>
   intro t n a b u v r hn h ha hb
   obtain ⟨n,rfl⟩ : ∃ m,n = m + 1:=⟨n - 1,by omega⟩
   simp only [eqT] at h
   unfold PartOf at ha hb
   split at h
   · rename_i hu
     rw [hu] at ha hb
     split at h
     · obtain ⟨x,hx,rx⟩:=ha
       obtain ⟨y,hy,ry⟩:=hb
       cases hx;cases hy;cases h
       rw [rx.bool_inv,ry.bool_inv]
       exact run_equalIn_bool' w n t _ _ hu
     · cases h
   · rename_i k hu
     rw [hu] at ha hb
     split at h
     · split at h
       · rename_i hk
         obtain ⟨x,hx,rx⟩:=ha
         obtain ⟨y,hy,ry⟩:=hb
         cases hx;cases hy;cases h
         have hk:=of_decide_eq_true hk
         subst hk
         rw [rx.int_inv,ry.int_inv]
         exact run_equalIn_int w n t _ _ _ _ hu
       · cases h
     · cases h
   · rename_i hu
     rw [hu] at ha hb
     split at h
     · obtain ⟨x,hx,rx⟩:=ha
       obtain ⟨y,hy,ry⟩:=hb
       cases hx;cases hy;cases h
       obtain ⟨p,rfl,rfl⟩:=rx.str_inv
       obtain ⟨q,rfl,rfl⟩:=ry.str_inv
       rw [run_equalIn_string w n t _ _ hu,ByteArray.toList_eq,ByteArray.toList_eq]
     · cases h
   · rename_i fs hu
     rw [hu] at ha hb
     obtain ⟨xs,rfl,hx⟩:=ha
     obtain ⟨ys,rfl,hy⟩:=hb
     split at h
     · rename_i hst
       rw [run_equalIn_agg w n t xs ys (by rw [fieldsOf_struct hu];exact hu) hst,fieldsOf_struct hu]
       have fields : ∀ (l : List Field) off a' b' r,eqFs P (eqT P d) off l a' b' = some r → a' = a.drop off → b' = b.drop off → (Op.eqFields n xs ys l).run P w = .ok r w:=by
        intro l
        induction l with
        | nil => intro off a' b' r h _ _;simp only [eqFs] at h;cases h;rfl
        | cons g l ihl =>
          intro off a' b' r h ea eb
          simp only [eqFs] at h
          split at h
          · rename_i x y hc hx' hy'
            cases h
            simp only [Bool.and_eq_true,Bool.not_eq_true',beq_eq_false_iff_ne] at hc
            obtain ⟨⟨⟨h1,h2⟩,h3⟩,h4⟩:=hc
            have h2:=Nat.eq_of_beq_eq_true h2
            have h3:=Nat.le_of_ble_eq_true h3
            have h4:=Nat.le_of_ble_eq_true h4
            have prt : ∀ (cs : List PV) (zs : Array Value),CellsOf w O cs zs → ∀ c',c' = cs.drop off → tSize P g.type ≤ c'.length → ∀ c2,c2 = c'.take (tSize P g.type) → ∀ other r0,(eqT P d g.type c2 other = some r0 ∨ eqT P d g.type other c2 = some r0) →
             ∃ z,(part g.type zs g.offset).run P w = .ok z w ∧ PartOf P w O g.type c2 z:=by
             intro cs zs hz c' hc' hle c2 hc2 other r0 hr0
             cases d with
             | zero => rcases hr0 with hr0 | hr0 <;> simp [eqT] at hr0
             | succ d =>
             have scal : ∀ dd,P.underlying g.type = some dd → (∀ fs,dd ≠ .struct fs) → (∀ n e,dd ≠ .array n e) → ∀ x,c2 = [x] → ∃ z,(part g.type zs g.offset).run P w = .ok z w ∧ PartOf P w O g.type c2 z:=by
              intro dd hu' hs ha x hx
              have h0 : c2[0]? = some x:=by rw [hx];rfl
              rw [hc2,List.getElem?_take] at h0
              split at h0
              · rw [hc',List.getElem?_drop] at h0
                obtain ⟨z,z1,z2⟩:=hz.rep _ _ h0
                refine ⟨z,part_scalar hu' hs ha (by rw [h2];simpa using z1),?_⟩
                unfold PartOf
                rw [hu']
                cases dd <;> first | exact absurd rfl (hs _) | exact ⟨x,hx,z2⟩
              · cases h0
             have : ∃ dd,P.underlying g.type = some dd ∧ ((∃ x,c2 = [x] ∧ (∀ fs,dd ≠ .struct fs) ∧ (∀ n e,dd ≠ .array n e)) ∨ ∃ fs,dd = .struct fs):=by
              rcases hr0 with hr0 | hr0 <;> simp only [eqT] at hr0 <;> split at hr0 <;> rename_i hu'
              all_goals first
               | exact ⟨_,hu',.inr ⟨_,rfl⟩⟩
               | (cases hr0;done)
               | (split at hr0
                  · exact ⟨_,hu',.inl ⟨_,rfl,by simp,by simp⟩⟩
                  · cases hr0)
             obtain ⟨dd,hu',hx | ⟨fs',rfl⟩⟩:=this
             · obtain ⟨x,hx,hs,ha⟩:=hx
               exact scal dd hu' hs ha x hx
             · cases hi : P.info? g.type with
               | none =>
                 exfalso
                 unfold Program.underlying at hu'
                 simp [hi] at hu'
               | some i =>
                 refine ⟨_,part_struct hu' hi zs g.offset,?_⟩
                 unfold PartOf
                 rw [hu']
                 refine ⟨_,rfl,?_⟩
                 have hsz : tSize P g.type = i.size:=by simp [tSize,hi]
                 rw [hc2,hc',h2,hsz]
                 exact cellsOf_part hz off i.size
            obtain ⟨u,u1,u2⟩:=prt a xs hx a' ea h3 _ rfl _ _ (.inl hx')
            obtain ⟨v,v1,v2⟩:=prt b ys hy b' eb h4 _ rfl _ _ (.inr hx')
            have hq:=ih g.type n _ _ u v x (by omega) hx' u2 v2
            simp only [Op.eqFields]
            rw [if_pos (by simpa using h1)]
            simp only [Sem.run_bind,u1,v1,hq,Result.andThen_ok]
            cases x with
            | false => rfl
            | true =>
              simp only [Bool.not_true,Bool.false_eq_true,if_false,Bool.true_and]
              exact ihl (off + tSize P g.type) _ _ y hy' (by rw [ea,List.drop_drop]) (by rw [eb,List.drop_drop])
          · cases h
       exact fields fs.toList 0 a b r h (by simp) (by simp)
     · cases h
   · cases h
end
end Go.Ev

namespace Go.Ev
section
variable {P : Program} {w : World} {Oc : Nat → Prop} {st : Slots} {tm : Nat → Value} {blk : Blk} {r : List Edit × SV}
abbrev asNext (s : Sem Value) : Sem Next:=do pure (.value (← s))
theorem run_asNext {s : Sem Value} {u : Value} {w' : World} (h : s.run P w = .ok u w') : (asNext s).run P w = .ok (.value u) w':=by
 simp [asNext,h]
theorem guard_int (op : BinOp) (t : TypeId) (x y : Operand) (k l : IntKind) (a b : Int) : (eqGuard op t x y (.int k a) (.int l b)).run P w = .ok () w:=by
 cases op <;> simp [eqGuard]
theorem guard_str (op : BinOp) (t : TypeId) (x y : Operand) (a b : ByteArray) : (eqGuard op t x y (.string a) (.string b)).run P w = .ok () w:=by
 cases op <;> simp [eqGuard]
theorem guard_bool (op : BinOp) (t : TypeId) (x y : Operand) (a b : Bool) : (eqGuard op t x y (.bool a) (.bool b)).run P w = .ok () w:=by
 cases op <;> simp [eqGuard]
theorem holds_map {q : Q PV} {r : List Edit × SV} (h : Q.holds (q.1,match q.2 with | some v => some (([],.val v) : List Edit × SV) | none => none) r) : ∃ v,q.holds v ∧ r = ([],.val v):=by
 obtain ⟨h1,h2⟩:=h
 dsimp only at h1 h2
 split at h1
 · rename_i v hv
   cases h1
   exact ⟨v,⟨hv,h2⟩,rfl⟩
 · cases h1
theorem guard_ptr (op : BinOp) (t : TypeId) (x y : Operand) (a b : Option Addr) : (eqGuard op t x y (.pointer a) (.pointer b)).run P w = .ok () w:=by
 cases op <;> simp [eqGuard]
theorem run_ptr_nil (w : World) (t e : TypeId) (A : Addr) (hu : P.underlying t = some (.pointer e)) : (Op.equal t (.pointer (some A)) (.pointer none)).run P w = .ok false w:=by
 unfold Op.equal
 show (Op.equalIn 10000 t (.pointer (some A)) (.pointer none)).run P w = _
 unfold Op.equalIn
 simp [run_underlying' hu]
theorem RepV.nilp_inv {w : World} {O : Nat → Prop} {u : Value} (h : RepV w O .nilp u) : u = .pointer none:=by cases h;rfl
theorem sim_bin (h : SRel w Oc st tm blk) {a b : Arg} {u v : Value} {op : BinOp} {xt : TypeId} {x y : Operand} (ha : ArgRep w (blk.off Oc) st tm a u) (hb : ArgRep w (blk.off Oc) st tm b v)
 (hr : (cBin P op xt a b).holds r) : Gives P (asNext (do eqGuard op xt x y u v;binOp op xt u v)) w Oc st tm blk r:=by
 unfold cBin at hr
 split at hr
 · rename_i k p l q hx hy
   have e1:=(ha.val hx).int_inv
   have e2:=(hb.val hy).int_inv
   subst e1;subst e2
   split at hr
   · obtain ⟨h0,hr⟩:=Q.holds_need hr
     cases Q.holds_quietP hr
     obtain ⟨u,h1,h2⟩:=shl_run (P:=P) (w:=w) (O:=blk.off Oc) (k:=k) (l:=l) (a:=p) (of_decide_eq_true h0) xt
     exact .val h (run_asNext (by simp [guard_int,h1])) h2
   · obtain ⟨h0,hr⟩:=Q.holds_need hr
     cases Q.holds_quietP hr
     obtain ⟨u,h1,h2⟩:=shr_run (P:=P) (w:=w) (O:=blk.off Oc) (k:=k) (l:=l) (a:=p) (of_decide_eq_true h0) xt
     exact .val h (run_asNext (by simp [guard_int,h1])) h2
   · rename_i hn1 hn2
     split at hr
     · rename_i hk
       have hk:=of_decide_eq_true hk
       subst hk
       obtain ⟨z,hz,rfl⟩:=holds_map hr
       obtain ⟨u,h1,h2⟩:=intOp_run (P:=P) (w:=w) (O:=blk.off Oc) hz ⟨fun e => hn1 e,fun e => hn2 e⟩ xt
       exact .val h (run_asNext (by simp [guard_int,h1])) h2
     · exact (Q.holds_no hr).elim
 · rename_i p q hx hy
   obtain ⟨c,rfl,rfl⟩:=(ha.val hx).str_inv
   obtain ⟨d,rfl,rfl⟩:=(hb.val hy).str_inv
   obtain ⟨z,hz,rfl⟩:=holds_map hr
   obtain ⟨u,h1,h2⟩:=strOp_run (P:=P) (w:=w) (O:=blk.off Oc) hz xt
   exact .val h (run_asNext (by simp [guard_str,h1])) h2
 · rename_i p q hx hy
   have e1:=(ha.val hx).bool_inv
   have e2:=(hb.val hy).bool_inv
   subst e1;subst e2
   have heq : ∀ hu : P.underlying xt = some .bool,(Op.equal xt (.bool p) (.bool q)).run P w = .ok (p == q) w:=fun hu => run_equalIn_bool' w 9999 xt p q hu
   split at hr
   · rename_i hu
     cases Q.holds_quietP hr
     exact .val h (u := .bool (p == q)) (run_asNext (by simp [guard_bool,binOp,heq hu])) (.bool _)
   · rename_i hu
     cases Q.holds_quietP hr
     exact .val h (u := .bool (!(p == q))) (run_asNext (by simp [guard_bool,binOp,heq hu])) (.bool _)
   · exact (Q.holds_no hr).elim
 · rename_i p q hx hy
   obtain ⟨xs,rfl,hxs⟩:=(ha.val hx).agg_cells
   obtain ⟨ys,rfl,hys⟩:=(hb.val hy).agg_cells
   split at hr
   · rename_i hg
     split at hr
     · rename_i fs hu
       obtain ⟨z,hz,hr⟩:=Q.holds_withA hr
       cases Q.holds_quietP hr
       have h1:=eqT_run (w:=w) (O:=blk.off Oc) 8 xt 10000 p q _ _ z (by omega) hz (by unfold PartOf;rw [hu];exact ⟨xs,rfl,hxs⟩) (by unfold PartOf;rw [hu];exact ⟨ys,rfl,hys⟩)
       refine .val h (u := .bool z) (run_asNext ?_) (.bool _)
       simp only [Sem.run_bind,run_eqGuard_agg w _ xt x y xs ys hg,Result.andThen_ok,run_eql_struct,h1]
     · rename_i fs hu
       obtain ⟨z,hz,hr⟩:=Q.holds_withA hr
       cases Q.holds_quietP hr
       have h1:=eqT_run (w:=w) (O:=blk.off Oc) 8 xt 10000 p q _ _ z (by omega) hz (by unfold PartOf;rw [hu];exact ⟨xs,rfl,hxs⟩) (by unfold PartOf;rw [hu];exact ⟨ys,rfl,hys⟩)
       refine .val h (u := .bool (!z)) (run_asNext ?_) (.bool _)
       simp only [Sem.run_bind,run_eqGuard_agg w _ xt x y xs ys hg,Result.andThen_ok,run_neq_struct,h1]
     · exact (Q.holds_no hr).elim
   · exact (Q.holds_no hr).elim
 · rename_i s' hx hy
   have e2:=(hb.val hy).nilp_inv
   subst e2
   obtain ⟨sv,rt⟩:=a
   dsimp only at hx hr
   subst hx
   have hpt : ∀ cs s0,rt = some (s0,OV.cont .box cs) → ∃ A,u = .pointer (some A):=by
    rintro cs s0 rfl
    obtain ⟨hg,e⟩:=ha.root s0 _ rfl
    cases e
    have hu':=(ha.rep.2 _ hg).2.top_eq
    have hrep:=h.rep s'
    rw [hg] at hrep
    have hrep : ORep w (blk.off Oc) (.cont .box cs) (tm s') (blk s' none) (fun j => blk s' (some j)):=hrep
    rw [hu']
    generalize tm s' = x at hrep
    generalize blk s' none = m at hrep
    cases hrep with
    | box => exact ⟨_,rfl⟩
   split at hr
   · rename_i s0 cs e0 hu
     cases Q.holds_quietP hr
     obtain ⟨A,rfl⟩:=hpt cs s0 rfl
     refine .val h (u := .bool false) (run_asNext ?_) (.bool _)
     simp [guard_ptr,binOp,run_ptr_nil w xt e0 A hu]
   · rename_i s0 cs e0 hu
     cases Q.holds_quietP hr
     obtain ⟨A,rfl⟩:=hpt cs s0 rfl
     refine .val h (u := .bool true) (run_asNext ?_) (.bool _)
     simp [guard_ptr,binOp,run_ptr_nil w xt e0 A hu]
   · exact (Q.holds_no hr).elim
 · exact (Q.holds_no hr).elim
theorem sim_un (h : SRel w Oc st tm blk) {a : Arg} {u : Value} {op : UnOp} (ha : ArgRep w (blk.off Oc) st tm a u) (hr : (cUn op a).holds r) : Gives P (asNext (Op.unary op u)) w Oc st tm blk r:=by
 unfold cUn at hr
 split at hr
 · rename_i k n hx
   cases Q.holds_quietP hr
   rw [(ha.val hx).int_inv]
   exact .val h (run_asNext (by simp [Op.unary,Op.intArith])) (.int _ _)
 · rename_i b hx
   cases Q.holds_quietP hr
   rw [(ha.val hx).bool_inv]
   exact .val h (run_asNext (by simp [Op.unary])) (.bool _)
 · exact (Q.holds_no hr).elim
theorem sim_index (h : SRel w Oc st tm blk) {a b : Arg} {u v : Value} {t : TypeId} (ha : ArgRep w (blk.off Oc) st tm a u) (hb : ArgRep w (blk.off Oc) st tm b v) (hr : (cIndex P t a b).holds r) :
 Gives P (asNext (Instr.index t u v)) w Oc st tm blk r:=by
 unfold cIndex at hr
 obtain ⟨i,hi,hr⟩:=Q.holds_withA hr
 obtain ⟨k,rfl⟩:=hb.int hi
 split at hr
 · rename_i s hu hx
   obtain ⟨h0,hr⟩:=Q.holds_need hr
   obtain ⟨h1,hr⟩:=Q.holds_need hr
   cases Q.holds_quietP hr
   have h0:=of_decide_eq_true h0
   have h1:=of_decide_eq_true h1
   obtain ⟨c,rfl,rfl⟩:=(ha.val hx).str_inv
   have hlt : i.toNat < c.size:=by
    have : c.data.toList.length = c.size:=by simp
    omega
   refine .val h (u := .int .u8 (c[i.toNat]).toNat) (run_asNext ?_) ?_
   · simp only [Instr.index,asIntOf,Sem.run_bind,Sem.run_pure,Result.andThen_ok,run_underlying' hu]
     simp [h0,hlt]
   · have : c.data.toList.getD i.toNat 0 = c[i.toNat]:=by
      rw [List.getD_eq_getElem?_getD,List.getElem?_eq_getElem (by simpa using hlt)]
      simp
      rfl
     rw [this]
     exact .int _ _
 · exact (Q.holds_no hr).elim
theorem row_pv {a : Arg} {sh : Option Nat} {xs : List PV} (h : a.row = some (sh,xs)) : a.pv = some (.sl sh xs):=by
 obtain ⟨sv,rt⟩:=a
 have hrow : ∀ o : OV,o.row = some (sh,xs) → o.pv = some (.sl sh xs):=by
  intro o ho
  unfold OV.row at ho
  split at ho
  · cases ho;rfl
  · cases ho;rfl
  · cases ho;rfl
  · cases ho;rfl
  · cases ho
 cases sv with
 | home o => exact hrow o h
 | ref s c =>
   cases rt with
   | none => simp [Arg.row] at h
   | some p =>
     obtain ⟨s',o⟩:=p
     simp only [Arg.row] at h
     simp only [Arg.pv]
     split at h
     · rename_i x hx;exact hrow x h
     · cases h
 | view s c l e =>
   simp only [Arg.pv,h]
 | _ => simp [Arg.row] at h
theorem RepV.sl_inv {O : Nat → Prop} {sh : Option Nat} {xs : List PV} {u : Value} (h : RepV w O (.sl sh xs) u) : ∃ A c,u = .slice A xs.length c ∧ xs.length ≤ c ∧ (A = none → c = 0) ∧
 (∀ (i : Nat) (x : PV),xs[i]? = some x → pvFits sh x = true) ∧
 (∀ (i : Nat) (x : PV) (j : Nat) (y : PV),xs[i]? = some x → x.cells[j]? = some y → isCell y = true ∧ ∃ a z,A = some a ∧ ¬ O a.block ∧ w.cell? (a.add (i * shN sh + j)) = some z ∧ RepV w O y z):=by
 cases h with
 | slNil sh => exact ⟨none,0,rfl,by simp,by simp,by simp,by simp⟩
 | sl sh xs a c us hc hf hk ho hm hr => exact ⟨some a,c,rfl,hc,by simp,hf,fun i x j y h1 h2 => ⟨hk _ _ _ _ h1 h2,a,_,rfl,ho _ _ _ _ h1 h2,hm _ _ _ _ h1 h2,hr _ _ _ _ h1 h2⟩⟩
theorem sim_len (h : SRel w Oc st tm blk) {a : Arg} {u : Value} {t : TypeId} {ty : TypeId} (ha : ArgRep w (blk.off Oc) st tm a u) (hr : (cLen P t a).holds r) :
 Gives P (asNext (Builtin.len_ #[t] ty #[u])) w Oc st tm blk r:=by
 unfold cLen at hr
 split at hr
 · rename_i hu
   split at hr
   · rename_i s hx
     cases Q.holds_quietP hr
     obtain ⟨c,rfl,rfl⟩:=(ha.val hx).str_inv
     refine .val h (u := .int .i64 c.size) (run_asNext ?_) ?_
     · simp [Builtin.len_,run_underlying' hu,goInt]
     · have : (c.data.toList.length : Int) = c.size:=by simp
       rw [this];exact .int _ _
   · exact (Q.holds_no hr).elim
 · rename_i e hu
   split at hr
   · rename_i sh xs hx
     cases Q.holds_quietP hr
     obtain ⟨A,c,rfl,_⟩:=(arg_pv h ha (row_pv hx)).sl_inv
     exact .val h (u := .int .i64 xs.length) (run_asNext (by simp [Builtin.len_,run_underlying' hu,goInt])) (.int _ _)
   · exact (Q.holds_no hr).elim
 · exact (Q.holds_no hr).elim
end
end Go.Ev

namespace Go.Ev
section
variable {P : Program} {w : World} {Oc : Nat → Prop} {st : Slots} {tm : Nat → Value} {blk : Blk} {r : List Edit × SV}
theorem tShape_spec {t : TypeId} {sh : Option Nat} (h : tShape P t = some sh) : ∃ i,P.info? t = some i ∧
 ((∃ n,sh = some n ∧ i.size = n ∧ (Go.isAgg t).run P w = .ok true w) ∨ (sh = none ∧ i.size = 1 ∧ (Go.isAgg t).run P w = .ok false w)):=by
 unfold tShape at h
 split at h
 · rename_i i fs hi hu
   cases h
   exact ⟨i,hi,.inl ⟨_,rfl,rfl,run_isAgg_struct hu⟩⟩
 · rename_i i n e hi hu
   cases h
   exact ⟨i,hi,.inl ⟨_,rfl,rfl,run_isAgg_array hu⟩⟩
 · rename_i i d hn1 hn2 hi hu
   split at h
   · rename_i hs
     cases h
     refine ⟨i,hi,.inr ⟨rfl,Nat.eq_of_beq_eq_true hs,run_isAgg_no hu (fun fs e => ?_) (fun n e e' => ?_)⟩⟩
     · exact hn1 _ e
     · exact hn2 _ _ e'
   · cases h
 · cases h
theorem tShape_size {t : TypeId} {sh : Option Nat} (h : tShape P t = some sh) : ∃ i,P.info? t = some i ∧ i.size = shN sh:=by
 obtain ⟨i,hi,h⟩:=tShape_spec (w:=default) h
 rcases h with ⟨n,rfl,hs,_⟩ | ⟨rfl,hs,_⟩
 · exact ⟨i,hi,hs⟩
 · exact ⟨i,hi,hs⟩
theorem fieldOf_spec {t : TypeId} {f : Nat} {off : Nat} {sh : Option Nat} {ft : TypeId} (h : fieldOf P t f = some (off,sh,ft)) :
 ∃ fs g,P.underlying t = some (.struct fs) ∧ fs[f]? = some g ∧ g.offset = off ∧ g.type = ft ∧ tShape P ft = some sh ∧ tSize P ft ≠ 0:=by
 unfold fieldOf at h
 split at h
 · rename_i fs hu
   split at h
   · rename_i g hg
     split at h
     · rename_i sh' hz hsh
       cases h
       refine ⟨fs,g,hu,hg,rfl,rfl,hsh,fun e => ?_⟩
       rw [e] at hz;cases hz
     · cases h
   · cases h
 · cases h
theorem run_fieldAt {t : TypeId} {f : Nat} {off : Nat} {sh : Option Nat} {ft : TypeId} (h : fieldOf P t f = some (off,sh,ft)) (a : Addr) :
 (Instr.fieldAt t (.pointer (some a)) f).run P w = .ok (.pointer (some (a.add off))) w:=by
 obtain ⟨fs,g,hu,hg,rfl,rfl,hsh,hz⟩:=fieldOf_spec h
 obtain ⟨i,hi,hs⟩:=tShape_size hsh
 have hn : ¬ i.size = 0:=by
  intro e;apply hz;simp [tSize,hi,e]
 simp only [Instr.fieldAt,Sem.run_bind,run_underlying' hu,Result.andThen_ok,hg,Instr.sureAddr,Sem.run_pure,fieldPlace,run_sizeOf' hi,Sem.run_ite,hn,if_false]
theorem partOf_spec {sh : Option Nat} {off : Nat} {cs : List PV} {v : PV} (h : partOf sh off cs = some v) :
 off + shN sh ≤ cs.length ∧ ((sh = none ∧ cs[off]? = some v) ∨ ∃ n,sh = some n ∧ v = .agg ((cs.drop off).take n)):=by
 unfold partOf at h
 split at h
 · have:=(List.getElem?_eq_some_iff.1 h).1
   exact ⟨by simp [shN];omega,.inl ⟨rfl,h⟩⟩
 · rename_i n
   split at h
   · rename_i hb
     cases h
     exact ⟨Nat.le_of_ble_eq_true hb,.inr ⟨n,rfl,rfl⟩⟩
   · cases h
theorem RepV.ptr_part {O : Nat → Prop} {n : Nat} {cs : List PV} {a : Addr} {sh : Option Nat} {off : Nat} {v : PV} (h : RepV w O (.ptr (some n) (.agg cs)) (.pointer (some a))) (hp : partOf sh off cs = some v) :
 RepV w O (.ptr sh v) (.pointer (some (a.add off))):=by
 obtain ⟨hl,hc⟩:=partOf_spec hp
 cases h with
 | ptr _ _ a us hf hk ho hm hr =>
   have hcs : (PV.agg cs).cells = cs:=rfl
   rw [hcs] at hk ho hm hr
   have add2 : ∀ j,(a.add off).add j = a.add (off + j):=by
    intro j
    unfold Addr.add
    by_cases h1 : off = 0
    · subst h1;simp
    · by_cases h2 : j = 0
      · subst h2;simp
      · simp [h1,h2,Nat.add_assoc]
   rcases hc with ⟨rfl,hv⟩ | ⟨m,rfl,rfl⟩
   · have hcell:=hk off v hv
     have hvc:=cells_of_isCell hcell
     refine .ptr none v (a.add off) (fun j => us (off + j)) hcell (fun j y hj => ?_) (fun j y hj => ?_) (fun j y hj => ?_) (fun j y hj => ?_)
     all_goals
      rw [hvc] at hj
      obtain ⟨rfl,rfl⟩ : j = 0 ∧ y = v:=by
       cases j with
       | zero => simp at hj;exact ⟨rfl,hj.symm⟩
       | succ j => simp at hj
     · exact hcell
     · rw [add_block];exact ho off _ hv
     · rw [add2];exact hm off _ hv
     · exact hr off _ hv
   · have hvc : (PV.agg ((cs.drop off).take m)).cells = (cs.drop off).take m:=rfl
     have hidx : ∀ j y,((cs.drop off).take m)[j]? = some y → cs[off + j]? = some y:=by
      intro j y hj
      rw [List.getElem?_take] at hj
      split at hj
      · rw [List.getElem?_drop] at hj;exact hj
      · cases hj
     refine .ptr (some m) _ (a.add off) (fun j => us (off + j)) ?_ (fun j y hj => hk _ _ (hidx j y hj)) (fun j y hj => ?_) (fun j y hj => ?_) (fun j y hj => hr _ _ (hidx j y hj))
     · simp only [pvFits,List.length_take,List.length_drop]
       have : min m (cs.length - off) = m:=by simp only [shN] at hl;omega
       rw [this];exact Nat.beq_refl m
     · rw [add_block];exact ho _ _ (hidx j y hj)
     · rw [add2];exact hm _ _ (hidx j y hj)
theorem RepV.ptr_inv {O : Nat → Prop} {sh : Option Nat} {v : PV} {u : Value} (h : RepV w O (.ptr sh v) u) : ∃ a,u = .pointer (some a):=by
 cases h with | ptr _ _ a => exact ⟨a,rfl⟩
theorem shEq_eq {a b : Option Nat} (h : shEq a b = true) : a = b:=by
 cases a <;> cases b <;> simp_all [shEq]
theorem eta1_eq {t : TypeId} {v : PV} (h : has1 P t v = true) : eta1 P t v = v:=by
 unfold has1 at h
 unfold eta1
 generalize P.underlying t = d at h ⊢
 cases d with
 | none => rfl
 | some d =>
   cases d with
   | bool => cases v <;> first | rfl | cases h
   | int k => cases v <;> first | (cases of_decide_eq_true h;rfl) | cases h
   | string => cases v <;> first | rfl | cases h
   | slice e =>
     cases he : tShape P e with
     | none => simp only [he]
     | some sh =>
       cases v with
       | sl sh' xs =>
         simp only [he] at h
         cases shEq_eq h
         simp only [he];rfl
       | _ => simp only [he] at h;cases h
   | pointer e =>
     dsimp only at h ⊢
     cases hs : sure P t with
     | false => rfl
     | true =>
       cases he : tShape P e with
       | none => rfl
       | some sh =>
         simp only [hs,he] at h ⊢
         cases v with
         | ptr sh' x => cases shEq_eq h;rfl
         | _ => cases h
   | _ => rfl
theorem etaCells_eq : ∀ (ts : List TypeId) (cs : List PV),hasCells P ts cs = true → etaCells P ts cs = cs:=by
 intro ts
 induction ts with
 | nil => intro cs h;cases cs with | nil => rfl | cons => simp [hasCells] at h
 | cons t ts ih =>
   intro cs h
   cases cs with
   | nil => simp [hasCells] at h
   | cons c cs =>
     simp only [hasCells,Bool.and_eq_true] at h
     simp only [etaCells,List.headD_cons,List.tail_cons,eta1_eq h.1,ih cs h.2]
theorem etaT_eq {t : TypeId} {v : PV} (h : hasT P t v = true) : etaT P t v = v:=by
 unfold hasT at h
 unfold etaT
 cases hs : tShape P t with
 | none => simp only [hs] at h ⊢;exact eta1_eq h
 | some sh =>
   cases sh with
   | none => simp only [hs] at h ⊢;exact eta1_eq h
   | some n =>
     simp only [hs,Bool.and_eq_true] at h ⊢
     cases v with
     | agg cs => simp only [PV.cells] at h ⊢;rw [etaCells_eq _ _ h.2]
     | _ => simp [isAgg] at h
end
end Go.Ev

namespace Go.Ev
section
variable {P : Program} {w : World} {Oc : Nat → Prop} {st : Slots} {tm : Nat → Value} {blk : Blk} {r : List Edit × SV}
inductive OptRep : Option Int → Option Value → Prop
 | none : OptRep none none
 | some (k : IntKind) (n : Int) : OptRep (some n) (some (.int k n))
theorem cutRow_eq {α : Type} (xs : List α) (lo hi : Option Int) : cutRow xs lo hi = (xs.take (cutH xs.length hi)).drop (cutL lo):=by
 cases lo <;> cases hi <;> simp [cutRow,cutL,cutH]
theorem run_bound {k : IntKind} {i : Int} {y : Nat} {code : BoundsCode} (h0 : 0 ≤ i) (h1 : i ≤ y) : (Instr.sliceBound (.int k i) y code).run P w = .ok i.toNat w:=by
 simp [Instr.sliceBound,asIntOf,h0,h1]
theorem cut_run {n cap : Nat} {lo hi mx : Option Int} {vlo vhi vmx : Option Value} (hn : n ≤ cap) (hlo : OptRep lo vlo) (hhi : OptRep hi vhi) (hmx : OptRep mx vmx)
 (hm : hi = none → mx = none) (hc : ∀ c ∈ cutOk n lo hi mx,c = true) (b : Bool) :
 cutL lo ≤ cutH n hi ∧ cutH n hi ≤ n ∧ ∃ m,cutH n hi ≤ m ∧ m ≤ cap ∧ (mx = none → m = cap) ∧ (Instr.sliceBounds b n cap vlo vhi vmx).run P w = .ok (cutL lo,cutH n hi,m) w:=by
 cases hlo with
 | none =>
   cases hhi with
   | none =>
     cases hmx with
     | none => exact ⟨by simp [cutL],by simp [cutH],cap,by simpa [cutH] using hn,Nat.le_refl _,fun _ => rfl,by simp [Instr.sliceBounds,cutL,cutH]⟩
     | some => exact absurd (hm rfl) (by simp)
   | some kh h =>
     cases hmx with
     | none =>
       unfold cutOk at hc
       simp at hc
       exact ⟨by simp [cutL],by simp [cutH];omega,cap,by simp [cutH];omega,Nat.le_refl _,fun _ => rfl,by simp [Instr.sliceBounds,cutL,cutH,run_bound (P:=P) (w:=w) (k:=kh) (y:=cap) hc.1 (by omega)]⟩
     | some km m =>
       unfold cutOk at hc
       simp at hc
       exact ⟨by simp [cutL],by simp [cutH];omega,m.toNat,by simp [cutH];omega,by omega,by simp,
        by simp [Instr.sliceBounds,cutL,cutH,run_bound (P:=P) (w:=w) (k:=km) (i:=m) (y:=cap) (by omega) (by omega),run_bound (P:=P) (w:=w) (k:=kh) (i:=h) (y:=m.toNat) (by omega) (by omega)]⟩
 | some kl l =>
   cases hhi with
   | none =>
     cases hmx with
     | none =>
       unfold cutOk at hc
       simp at hc
       exact ⟨by simp [cutL,cutH];omega,by simp [cutH],cap,by simpa [cutH] using hn,Nat.le_refl _,fun _ => rfl,
        by simp [Instr.sliceBounds,cutL,cutH,run_bound (P:=P) (w:=w) (k:=kl) (i:=l) (y:=n) (by omega) (by omega)]⟩
     | some => exact absurd (hm rfl) (by simp)
   | some kh h =>
     cases hmx with
     | none =>
       unfold cutOk at hc
       simp at hc
       exact ⟨by simp [cutL,cutH];omega,by simp [cutH];omega,cap,by simp [cutH];omega,Nat.le_refl _,fun _ => rfl,
        by simp [Instr.sliceBounds,cutL,cutH,run_bound (P:=P) (w:=w) (k:=kh) (i:=h) (y:=cap) (by omega) (by omega),run_bound (P:=P) (w:=w) (k:=kl) (i:=l) (y:=h.toNat) (by omega) (by omega)]⟩
     | some km m =>
       unfold cutOk at hc
       simp at hc
       exact ⟨by simp [cutL,cutH];omega,by simp [cutH];omega,m.toNat,by simp [cutH];omega,by omega,by simp,
        by simp [Instr.sliceBounds,cutL,cutH,run_bound (P:=P) (w:=w) (k:=km) (i:=m) (y:=cap) (by omega) (by omega),run_bound (P:=P) (w:=w) (k:=kh) (i:=h) (y:=m.toNat) (by omega) (by omega),
         run_bound (P:=P) (w:=w) (k:=kl) (i:=l) (y:=h.toNat) (by omega) (by omega)]⟩
theorem run_size {t : TypeId} {sh : Option Nat} (h : tShape P t = some sh) : (sizeOf t).run P w = .ok (shN sh) w:=by
 obtain ⟨i,hi,hs⟩:=tShape_size h
 rw [run_sizeOf' hi,hs]
theorem add_add (a : Addr) (i j : Nat) : (a.add i).add j = a.add (i + j):=by
 unfold Addr.add
 by_cases h1 : i = 0
 · subst h1;simp
 · by_cases h2 : j = 0
   · subst h2;simp
   · simp [h1,h2,Nat.add_assoc]
theorem RepV.cut {O : Nat → Prop} {sh : Option Nat} {xs : List PV} {A : Option Addr} {n c : Nat} (h : RepV w O (.sl sh xs) (.slice A n c)) {l e m : Nat} (hl : l ≤ e) (he : e ≤ xs.length) (hm : e ≤ m) (hmc : m ≤ c) :
 RepV w O (.sl sh ((xs.take e).drop l)) (.slice (if m = l then A else A.map (·.add (l * shN sh))) (e - l) (m - l)):=by
 have hlen : ((xs.take e).drop l).length = e - l:=by simp;omega
 cases h with
 | slNil sh =>
   have : e = 0:=by simpa using he
   subst this
   have : l = 0:=by omega
   subst this
   have : m = 0:=by omega
   subst this
   exact .slNil sh
 | sl sh xs a c us hc hf hk ho hm' hr =>
   have hidx : ∀ i x,((xs.take e).drop l)[i]? = some x → xs[l + i]? = some x:=by
    intro i x hi
    rw [List.getElem?_drop,List.getElem?_take] at hi
    split at hi
    · exact hi
    · cases hi
   by_cases hml : m = l
   · subst hml
     have : e - m = 0:=by omega
     rw [if_pos rfl]
     have hnil : (xs.take e).drop m = []:=List.eq_nil_of_length_eq_zero (by rw [hlen];omega)
     rw [hnil,this,Nat.sub_self]
     exact .sl sh [] a 0 us (by simp) (by simp) (by simp) (by simp) (by simp) (by simp)
   · rw [if_neg hml]
     refine .slOf sh _ (a.add (l * shN sh)) _ _ (fun i j => us (l + i) j) hlen (by omega) (fun i x hi => hf _ _ (hidx i x hi)) (fun i x j y hi hj => hk _ _ _ _ (hidx i x hi) hj)
      (fun i x j y hi hj => ?_) (fun i x j y hi hj => ?_) (fun i x j y hi hj => hr _ _ _ _ (hidx i x hi) hj)
     · rw [add_block];exact ho _ _ _ _ (hidx i x hi) hj
     · rw [add_add,← Nat.add_assoc,← Nat.add_mul];exact hm' _ _ _ _ (hidx i x hi) hj
theorem run_slice_text {t : TypeId} (hu : P.underlying t = some .string) (s : ByteArray) {lo hi : Option Int} {vlo vhi : Option Value} (hlo : OptRep lo vlo) (hhi : OptRep hi vhi)
 (hc : ∀ c ∈ cutOk s.data.toList.length lo hi none,c = true) : ∃ b : ByteArray,(Instr.sliceAt t (.string s) vlo vhi none).run P w = .ok (.string b) w ∧ b.data.toList = cutRow s.data.toList lo hi:=by
 have hsz : s.data.toList.length = s.size:=by simp
 rw [hsz] at hc
 obtain ⟨h1,h2,m,h3,h4,h5,h6⟩:=cut_run (P:=P) (w:=w) (Nat.le_refl s.size) hlo hhi .none (fun _ => rfl) hc false
 refine ⟨s.extract (cutL lo) (cutH s.size hi),?_,?_⟩
 · simp only [Instr.sliceAt,Sem.run_bind,run_underlying' hu,Result.andThen_ok,Instr.slice]
   simp [h6]
 · rw [cutRow_eq,hsz]
   simp [ByteArray.data_extract,List.extract_eq_take_drop]
   rw [List.drop_take]
theorem run_slice_row {t e : TypeId} (hu : P.underlying t = some (.slice e)) {sh : Option Nat} (hs : tShape P e = some sh) {A : Option Addr} {n c : Nat} (hn : n ≤ c) {lo hi mx : Option Int} {vlo vhi vmx : Option Value}
 (hlo : OptRep lo vlo) (hhi : OptRep hi vhi) (hmx : OptRep mx vmx) (hm : hi = none → mx = none) (hc : ∀ c ∈ cutOk n lo hi mx,c = true) :
 cutL lo ≤ cutH n hi ∧ cutH n hi ≤ n ∧ ∃ m,cutH n hi ≤ m ∧ m ≤ c ∧
  (Instr.sliceAt t (.slice A n c) vlo vhi vmx).run P w = .ok (.slice (if m = cutL lo then A else A.map (·.add (cutL lo * shN sh))) (cutH n hi - cutL lo) (m - cutL lo)) w:=by
 obtain ⟨h1,h2,m,h3,h4,h5,h6⟩:=cut_run (P:=P) (w:=w) hn hlo hhi hmx hm hc true
 refine ⟨h1,h2,m,h3,h4,?_⟩
 simp only [Instr.sliceAt,Sem.run_bind,run_underlying' hu,Result.andThen_ok,Instr.slice,h6,run_size hs,Sem.run_pure]
theorem own_at {o : OV} {s : Nat} {c : Option Nat} {u : Value} {sh : Option Nat} {xs sp : List PV} (h : SRel w Oc st tm blk) (hg : st.get s = .home o) (hx : o.at c = some (.flat (.own sh xs sp))) (hp : PathV w (tm s) o c u) :
 ∃ b,FRep w (blk.off Oc) (.own sh xs sp) u b ∧ (∀ k,b = some k → placeOwns blk s c k):=by
 have hrep:=h.rep s
 rw [hg] at hrep
 obtain ⟨m,β,h1,h2,h3⟩:=place_rep (b:=blk s) hrep hx hp
 obtain ⟨h4,_⟩:=h1.flat_inv
 exact ⟨m,h4,fun k hk => owns_place h2 h3 k (.inl hk)⟩
theorem sim_slice (h : SRel w Oc st tm blk) {a : Arg} {u : Value} {t : TypeId} {lo hi mx : Option Int} {vlo vhi vmx : Option Value} (ha : ArgRep w (blk.off Oc) st tm a u)
 (hlo : OptRep lo vlo) (hhi : OptRep hi vhi) (hmx : OptRep mx vmx) (hr : (cSlice P t a lo hi mx).holds r) : Gives P (asNext (Instr.sliceAt t u vlo vhi vmx)) w Oc st tm blk r:=by
 unfold cSlice at hr
 split at hr
 · exact (Q.holds_no hr).elim
 · rename_i hno
   have hm : hi = none → mx = none:=by
    intro e
    cases hmx' : mx with
    | none => rfl
    | some m => exact absurd hmx' (hno m e)
   split at hr
   · rename_i hu
     split at hr
     · rename_i s hx
       obtain ⟨hr1,hr2⟩:=hr
       dsimp only at hr1 hr2
       cases hr1
       obtain ⟨b,rfl,rfl⟩:=(ha.val hx).str_inv
       cases hmx
       obtain ⟨b',h1,h2⟩:=run_slice_text (w:=w) hu b hlo hhi hr2
       refine .val h (run_asNext h1) ?_
       rw [← h2]
       exact .str b'
     · exact (Q.holds_no hr).elim
   · rename_i e hu
     split at hr
     · rename_i sh0 sh xs hs hrow
       split at hr
       · rename_i hsh
         cases shEq_eq hsh
         have hpv:=arg_pv h ha (row_pv hrow)
         obtain ⟨A,c0,rfl,hc0,_⟩:=hpv.sl_inv
         split at hr
         all_goals first | (exact (Q.holds_no hr).elim) | skip
         all_goals
          rename_i hsv
          obtain ⟨hr1,hr2⟩:=hr
          dsimp only at hr1 hr2
          cases hr1
          obtain ⟨k1,k2,m,k3,k4,k5⟩:=run_slice_row (w:=w) hu hs (A:=A) hc0 hlo hhi hmx hm hr2
         · refine .val h (run_asNext k5) ?_
           rw [cutRow_eq]
           refine RepV.cut (n:=xs.length) (c:=c0) ?_ k1 k2 k3 k4
           obtain ⟨sv,rt⟩:=a
           dsimp only at hsv
           subst hsv
           exact hpv.move fun k _ hno => ⟨rfl,fun x => hno ⟨x,fun y => y⟩⟩
         · rename_i s c
           refine .quiet h (run_asNext k5) ⟨fun _ => rfl,fun o sh' xs' sp hg hx => ?_⟩
           obtain ⟨sv,rt⟩:=a
           dsimp only at hsv
           subst hsv
           obtain ⟨o',ho'⟩:=ha.some_ s rfl
           dsimp only at ho'
           subst ho'
           obtain ⟨hg',_⟩:=ha.root s o' rfl
           rw [hg] at hg'
           cases hg'
           simp only [Arg.row,hx,OV.row,Option.some.injEq,Prod.mk.injEq] at hrow
           obtain ⟨rfl,rfl⟩:=hrow
           obtain ⟨_,hp⟩:=ha.rep.2 o hg
           refine ⟨k1,k2,_,hp,?_⟩
           obtain ⟨b,hf,_⟩:=own_at h hg hx hp
           cases hf with
           | ownE =>
             right
             simp only [List.length_nil] at k2
             have e1 : cutH 0 hi = 0:=by omega
             simp only [List.length_nil] at k1 k3 ⊢
             rw [e1] at k1 k3 ⊢
             have e2 : cutL lo = 0:=by omega
             rw [e2]
             have e3 : m = 0:=by omega
             subst e3
             exact ⟨rfl,A,0,by simp,rfl⟩
           | own _ _ _ b c cur ty fr us hown =>
             by_cases hml : m = cutL lo
             · have e1 : cutH xs'.length hi = cutL lo:=by omega
               right
               refine ⟨e1,some ⟨b,0,none⟩,m - cutL lo,?_,by omega⟩
               rw [if_pos hml,e1,Nat.sub_self]
             · left
               refine ⟨b,xs'.length,_,m - cutL lo,rfl,rfl,?_,by omega,by omega⟩
               rw [if_neg hml]
               simp [addr_add]
         · rename_i s c l0 h0
           refine .quiet h (run_asNext k5) ⟨fun _ => rfl,fun o sh' xs' sp hg hx => ?_⟩
           obtain ⟨sv,rt⟩:=a
           dsimp only at hsv
           subst hsv
           obtain ⟨o',ho'⟩:=ha.some_ s rfl
           dsimp only at ho'
           subst ho'
           obtain ⟨hg',_⟩:=ha.root s o' rfl
           rw [hg] at hg'
           cases hg'
           simp only [Arg.row,hx,Option.some.injEq,Prod.mk.injEq] at hrow
           obtain ⟨rfl,rfl⟩:=hrow
           obtain ⟨v1,v2,x,hp,hv⟩:=ha.rep.2 o _ _ _ hg hx
           have hlen : ((xs'.drop l0).take (h0 - l0)).length = h0 - l0:=by simp;omega
           rw [hlen] at k1 k2 k3 ⊢
           refine ⟨by omega,by omega,x,hp,?_⟩
           rcases hv with ⟨b,n,cap,c',q1,q2,q3,q4,q5⟩ | ⟨q1,A',c',q3,q4⟩
           · rw [hlen] at q3
             simp only [Value.slice.injEq,true_and] at q3
             obtain ⟨rfl,rfl⟩:=q3
             by_cases hml : m = cutL lo
             · right
               refine ⟨by omega,some ⟨b,l0 * shN sh',none⟩,m - cutL lo,?_,by omega⟩
               rw [if_pos hml]
               have : cutH (h0 - l0) hi - cutL lo = 0:=by omega
               rw [this]
             · left
               refine ⟨b,n,cap,m - cutL lo,q1,q2,?_,by omega,by omega⟩
               rw [if_neg hml]
               simp [addr_add,Nat.add_mul]
               omega
           · subst q1
             rw [hlen,Nat.sub_self] at q3
             simp only [Value.slice.injEq,true_and] at q3
             obtain ⟨rfl,rfl⟩:=q3
             have e0 : h0 - h0 = 0:=Nat.sub_self _
             rw [e0] at k1 k2 k3 ⊢
             have e1 : cutH 0 hi = 0:=by omega
             rw [e1] at k1 k3 ⊢
             have e2 : cutL lo = 0:=by omega
             rw [e2]
             right
             exact ⟨rfl,_,m - 0,rfl,by omega⟩
       · exact (Q.holds_no hr).elim
     · exact (Q.holds_no hr).elim
   · exact (Q.holds_no hr).elim
end
end Go.Ev

namespace Go.Ev
section
variable {P : Program} {w : World} {Oc : Nat → Prop} {st : Slots} {tm : Nat → Value} {blk : Blk} {r : List Edit × SV}
theorem ORep.tup_inv {O : Nat → Prop} {cs : List FV} {v : Value} {m : Option Nat} {β : Nat → Option Nat} (h : ORep w O (.cont .tup cs) v m β) : ∃ us,v = .tuple us:=by
 cases h with
 | tup cs us => exact ⟨us,rfl⟩
theorem ORep.agg_inv {O : Nat → Prop} {cs : List FV} {v : Value} {m : Option Nat} {β : Nat → Option Nat} (h : ORep w O (.cont .agg cs) v m β) : ∃ us,v = .agg us ∧ us.size = cs.length ∧ m = none ∧ Cells w O cs (us[·]?) β := by
 cases h with
 | agg cs us _ hl _ hc => exact ⟨us,rfl,hl,rfl,hc⟩
theorem ORep.box_inv {O : Nat → Prop} {cs : List FV} {v : Value} {m : Option Nat} {β : Nat → Option Nat} (h : ORep w O (.cont .box cs) v m β) : ∃ b,v = .pointer (some ⟨b,0,none⟩) ∧ m = some b ∧
 ∃ cur e fr,w.heap[b]? = some (.cells cur e fr) ∧ Thawed cur fr ∧ cur.size = cs.length ∧ Cells w O cs (cur[·]?) β := by
 cases h with
 | box cs b cur e fr _ hb ht hl hk hc => exact ⟨b,rfl,rfl,cur,e,fr,hb,ht,hl,hc⟩
theorem home_cell (h : SRel w Oc st tm blk) {s : Nat} {k : CK} {cs : List FV} (hg : st.get s = .home (.cont k cs)) {b : Nat} (hb : blockOf (tm s) = some b) {q : Nat} {f : FV} (hq : cs[q]? = some f) :
 ∃ z,w.cell? ⟨b,q,none⟩ = some z ∧ PathV w (tm s) (.cont k cs) (some q) z ∧ FRep w (blk.off Oc) f z (blk s (some q)) ∧ k ≠ .tup:=by
 have hrep:=h.rep s
 rw [hg] at hrep
 obtain ⟨z,hz,hf⟩:=ORep.cellAt hrep hq
 refine ⟨z,?_,hz,hf,?_⟩
 · generalize tm s = v at hb hz
   cases hz with
   | agg => simp [blockOf] at hb
   | tup => simp [blockOf] at hb
   | box b' cs j u h => simp only [blockOf,Option.some.injEq] at hb;subst hb;exact h
   | nest b' n c cs j u h => simp only [blockOf,Option.some.injEq] at hb;subst hb;exact h
   | ents b' n c cs j u h => simp only [blockOf,Option.some.injEq] at hb;subst hb;exact h
 · rintro rfl
   generalize tm s = v at hb hz
   cases hz
   simp [blockOf] at hb
theorem run_loadVar_one {t : TypeId} (hs : tShape P t = some none) {a : Addr} {z : Value} (hz : w.cell? a = some z) : (loadVar t a).run P w = .ok z w:=by
 obtain ⟨i,hi,hc⟩:=tShape_spec (w:=w) hs
 rcases hc with ⟨n,hn,_⟩ | ⟨_,_,hag⟩
 · cases hn
 · simp only [loadVar,Sem.run_bind,hag,Result.andThen_ok]
   simp [hz]
theorem run_loadVar_agg {t : TypeId} {n : Nat} (hs : tShape P t = some (some n)) {a : Addr} {f : Nat → Value} (hz : ∀ q,q < n → w.cell? (a.add q) = some (f q)) :
 (loadVar t a).run P w = .ok (.agg ((List.range n).map f).toArray) w:=by
 obtain ⟨i,hi,hc⟩:=tShape_spec (w:=w) hs
 rcases hc with ⟨n',hn,_,hag⟩ | ⟨hn,_⟩
 · cases hn
   simp only [loadVar,Sem.run_bind,hag,Result.andThen_ok]
   simp [run_size hs,shN,run_loadCells w a n f hz]
 · cases hn
theorem loadCells_rep (h : SRel w Oc st tm blk) {s : Nat} {k : CK} {cs : List FV} {j : Nat} {sh : Option Nat} (hg : st.get s = .home (.cont k cs)) (hk : k ≠ .tup) (hr : (loadCells s j cs sh).holds r) {u : Value}
 (hu : match sh with | none => PathV w (tm s) (.cont k cs) (some j) u | some n => RangeV w (tm s) (.cont k cs) j n u) : r.1 = [] ∧ SVRep w (blk.off Oc) st tm r.2 u (fun _ => none):=by
 have hrep:=h.rep s
 rw [hg] at hrep
 unfold loadCells at hr
 cases sh with
 | none =>
   dsimp only at hu hr
   split at hr
   · rename_i v hj
     cases Q.holds_quietP hr
     have hf:=PathV.cell_of hrep hj hu
     exact ⟨rfl,.flat _ _ _ (.val _ _ hf.val_inv.1)⟩
   · rename_i sh' hj
     cases Q.holds_quiet hr
     have hf:=PathV.cell_of hrep hj hu
     rw [hf.nil_inv.1]
     exact ⟨rfl,.flat _ _ _ (.nil _)⟩
   · rename_i x1 x2 x3 hj
     cases Q.holds_quiet hr
     refine ⟨rfl,fun _ => rfl,fun o ho => ?_⟩
     rw [hg] at ho
     cases ho
     exact ⟨⟨.flat (.own x1 x2 x3),by simp only [OV.at,hj]⟩,hu⟩
   · exact (Q.holds_no hr).elim
 | some n =>
   dsimp only at hu hr
   split at hr
   · rename_i vs hvs
     cases Q.holds_quietP hr
     unfold rangeVals at hvs
     split at hvs
     · rename_i h1 h2
       cases hvs
       have h1:=Nat.le_of_ble_eq_true h1
       obtain ⟨us,rfl,hus,hcell⟩:=hu
       refine ⟨rfl,.flat _ _ _ (.val _ _ ?_)⟩
       have hx : ∀ (q : Nat) (y : PV),(((cs.drop j).take n).map FV.frz)[q]? = some y → ∃ x,us[q]? = some x ∧ RepV w (blk.off Oc) y x ∧ isCell y = true:=by
        intro q y hq
        rw [List.getElem?_map,Option.map_eq_some_iff] at hq
        obtain ⟨f,hf,rfl⟩:=hq
        have hv : f.isVal = true:=List.all_eq_true.1 h2 f (List.mem_of_getElem? hf)
        rw [List.getElem?_take] at hf
        split at hf
        · rename_i hqn
          rw [List.getElem?_drop] at hf
          obtain ⟨x,hx1,hx2⟩:=hcell q hqn
          have hfr:=PathV.cell_of hrep hf hx2
          have hok:=ORep.cellOk hrep hk hf
          refine ⟨x,hx1,?_⟩
          cases f with
          | val v => exact ⟨hfr.val_inv.1,hok⟩
          | nil sh' => rw [hfr.nil_inv.1];exact ⟨.slNil _,rfl⟩
          | own => simp [FV.isVal] at hv
          | gone => simp [FV.isVal] at hv
        · cases hf
       refine .agg _ us (fun q => us.getD q Go.undef) (by simp;omega) (fun q y hq => by obtain ⟨_,_,_,h⟩:=hx q y hq;exact h) (fun q y hq => ?_) (fun q y hq => ?_)
       all_goals
        obtain ⟨x,h3,h4,_⟩:=hx q y hq
        simp only [Array.getD_eq_getD_getElem?]
        rw [h3]
       · rfl
       · exact h4
     · cases hvs
   · split at hr
     · rename_i hle
       cases Q.holds_quiet hr
       refine ⟨rfl,fun _ => rfl,fun o ho => ?_⟩
       rw [hg] at ho
       cases ho
       exact ⟨⟨k,cs,rfl,Nat.le_of_ble_eq_true hle,hk⟩,hu⟩
     · exact (Q.holds_no hr).elim
theorem load_cells {O : Nat → Prop} {t : TypeId} {sh : Option Nat} (hs : tShape P t = some sh) {v : PV} {a : Addr} {us : Nat → Value} (hf : pvFits sh v = true) (hk : ∀ (j : Nat) (y : PV),v.cells[j]? = some y → isCell y = true)
 (hm : ∀ (j : Nat) (y : PV),v.cells[j]? = some y → w.cell? (a.add j) = some (us j)) (hr : ∀ (j : Nat) (y : PV),v.cells[j]? = some y → RepV w O y (us j)) :
 ∃ u,(loadVar t a).run P w = .ok u w ∧ RepV w O v u:=by
 cases sh with
 | none =>
   have hc : isCell v = true:=hf
   have hvc:=cells_of_isCell hc
   have h0 : v.cells[0]? = some v:=by rw [hvc];rfl
   have hm0:=hm 0 v h0
   rw [Addr.add_zero'] at hm0
   exact ⟨us 0,run_loadVar_one hs hm0,hr 0 v h0⟩
 | some n =>
   cases v with
   | agg cs =>
     have hn : cs.length = n:=Nat.eq_of_beq_eq_true hf
     subst hn
     have hlt : ∀ q,q < cs.length → (PV.agg cs).cells[q]? = some (cs.getD q .undef):=by
      intro q hq
      simp [PV.cells,List.getD,hq]
     refine ⟨_,run_loadVar_agg hs (f:=us) (fun q hq => hm q _ (hlt q hq)),.agg cs _ us (by simp) hk (fun j y hj => ?_) hr⟩
     have hj' : j < cs.length:=(List.getElem?_eq_some_iff.1 hj).1
     simp [hj']
   | _ => simp [pvFits] at hf
theorem RepV.ptr_load {O : Nat → Prop} {t : TypeId} {sh : Option Nat} (hs : tShape P t = some sh) {v : PV} {u : Value} (h : RepV w O (.ptr sh v) u) :
 ∃ z,(Instr.loadAt t u).run P w = .ok z w ∧ RepV w O v z:=by
 cases h with
 | ptr _ _ a us hf hk ho hm hr =>
   obtain ⟨z,h1,h2⟩:=load_cells (P:=P) hs hf hk hm hr
   exact ⟨z,by simp [Instr.loadAt,Instr.sureAddr,h1],h2⟩
theorem load_adr (h : SRel w Oc st tm blk) {t : TypeId} {sh : Option Nat} (hs : tShape P t = some sh) {s j : Nat} {k : CK} {cs : List FV} (hg : st.get s = .home (.cont k cs)) {b : Nat} (hb : blockOf (tm s) = some b)
 (hr : (loadCells s j cs sh).holds r) : ∃ u,(Instr.loadAt t (.pointer (some ⟨b,j,none⟩))).run P w = .ok u w ∧ r.1 = [] ∧ SVRep w (blk.off Oc) st tm r.2 u (fun _ => none):=by
 have hrep:=h.rep s
 rw [hg] at hrep
 have hk : k ≠ .tup:=by
  rintro rfl
  obtain ⟨us,hus⟩:=ORep.tup_inv hrep
  rw [hus] at hb
  simp [blockOf] at hb
 cases sh with
 | none =>
   have : ∃ f,cs[j]? = some f:=by
    unfold loadCells at hr
    cases hj : cs[j]? with
    | none => simp only [hj] at hr;exact (Q.holds_no hr).elim
    | some f => exact ⟨f,rfl⟩
   obtain ⟨f,hj⟩:=this
   obtain ⟨z,h1,h2,_,_⟩:=home_cell h hg hb hj
   obtain ⟨e1,e2⟩:=loadCells_rep h hg hk hr (u:=z) h2
   refine ⟨z,?_,e1,e2⟩
   simp [Instr.loadAt,Instr.sureAddr,run_loadVar_one hs h1]
 | some n =>
   have hle : j + n ≤ cs.length:=by
    unfold loadCells at hr
    dsimp only at hr
    split at hr
    · rename_i vs hvs
      unfold rangeVals at hvs
      split at hvs
      · rename_i h1 _;exact Nat.le_of_ble_eq_true h1
      · cases hvs
    · split at hr
      · rename_i h1;exact Nat.le_of_ble_eq_true h1
      · exact (Q.holds_no hr).elim
   have hcell : ∀ q,q < n → ∃ z,w.cell? ⟨b,j + q,none⟩ = some z ∧ PathV w (tm s) (.cont k cs) (some (j + q)) z:=by
    intro q hq
    obtain ⟨z,h1,h2,_⟩:=home_cell h hg hb (q:=j + q) (f:=cs[j + q]'(by omega)) (by simp)
    exact ⟨z,h1,h2⟩
   let f : Nat → Value:=fun q => (w.cell? ⟨b,j + q,none⟩).getD Go.undef
   have hf : ∀ q,q < n → w.cell? ((⟨b,j,none⟩ : Addr).add q) = some (f q):=by
    intro q hq
    obtain ⟨z,h1,_⟩:=hcell q hq
    rw [addr_add]
    simp [f,h1]
   have hu : RangeV w (tm s) (.cont k cs) j n (.agg ((List.range n).map f).toArray):=by
    refine ⟨_,rfl,by simp,fun q hq => ?_⟩
    obtain ⟨z,h1,h2⟩:=hcell q hq
    refine ⟨z,?_,h2⟩
    simp [hq,f,h1]
   obtain ⟨e1,e2⟩:=loadCells_rep h hg hk hr hu
   refine ⟨_,?_,e1,e2⟩
   simp [Instr.loadAt,Instr.sureAddr,run_loadVar_agg hs hf]
theorem allPure_get : ∀ {cs : List FV},allPure cs = true → ∀ (q : Nat) (f : FV),cs[q]? = some f → ∃ v,f = .val v
 | [],_,_,_,hq => by simp at hq
 | f :: r,h,q,g,hq => by
   cases f with
   | val v =>
     cases q with
     | zero => simp at hq;exact ⟨v,hq.symm⟩
     | succ q => exact allPure_get (cs:=r) h q g (by simpa using hq)
   | _ => simp [allPure] at h
theorem pickAt_eq (sh : Option Nat) : ∀ (cs : List FV) (j q : Nat),q ≤ j → j - q < cs.length → pickAt sh j q cs = partAt sh (cs.drop (j - q))
 | [],j,q,_,h => by simp at h
 | c :: cs,j,q,hle,h => by
   simp only [pickAt]
   by_cases he : j = q
   · subst he;simp
   · rw [nbeq he]
     dsimp only
     rw [pickAt_eq sh cs j (q + 1) (by omega) (by simp at h;omega)]
     have : j - q = (j - (q + 1)) + 1:=by omega
     rw [this,List.drop_succ_cons]
theorem loadCells_pick {s j : Nat} {cs : List FV} {sh : Option Nat} (hp : allPure cs = true) (hl : j + shN sh ≤ cs.length) (hj : j < cs.length) : (loadCells s j cs sh).holds ([],.val (pickAt sh j 0 cs)):=by
 rw [pickAt_eq sh cs j 0 (Nat.zero_le _) (by omega),Nat.sub_zero]
 cases sh with
 | none =>
   obtain ⟨v,hv⟩:=allPure_get hp j _ (List.getElem?_eq_getElem hj)
   have hg : cs[j]? = some (.val v):=by rw [List.getElem?_eq_getElem hj,hv]
   have hd : cs.drop j = .val v :: cs.drop (j + 1):=by rw [List.drop_eq_getElem_cons hj,hv]
   simp only [loadCells,hg,hd,partAt,FV.frz]
   exact ⟨rfl,by simp [quietP,quiet,ok]⟩
 | some n =>
   have hall : ((cs.drop j).take n).all FV.isVal = true:=by
    rw [List.all_eq_true]
    intro f hf
    obtain ⟨q,hq,rfl⟩:=List.mem_iff_getElem.1 hf
    obtain ⟨v,hv⟩:=allPure_get hp (j + q) ((cs.drop j).take n)[q] (by
     rw [List.getElem_take,List.getElem_drop,List.getElem?_eq_getElem])
    rw [hv];rfl
   have hr : rangeVals cs j n = some (((cs.drop j).take n).map FV.frz):=by
    simp only [rangeVals,hall,shN] at hl ⊢
    rw [show Nat.ble (j + n) cs.length = true from bleT hl]
   simp only [loadCells,hr,partAt]
   exact ⟨rfl,by simp [quietP,quiet,ok]⟩
theorem RepV.ptr_one {O : Nat → Prop} {x : PV} {u : Value} (h : RepV w O (.ptr (some 1) (.agg [x])) u) : RepV w O (.ptr none x) u:=by
 cases h with
 | ptr _ _ a us hf hk ho hm hr =>
   have hc : isCell x = true:=hk 0 x rfl
   have e : x.cells = [x]:=cells_of_isCell hc
   refine .ptr none x a us hc (fun j y hj => ?_) (fun j y hj => ?_) (fun j y hj => ?_) (fun j y hj => ?_) <;> rw [e] at hj
   · exact hk j y hj
   · exact ho j y hj
   · exact hm j y hj
   · exact hr j y hj
theorem partX_spec {sh : Option Nat} {off : Nat} {x : PV} (hl : off + shN sh ≤ x.cells.length) (hc : ∀ (j : Nat) (y : PV),x.cells[j]? = some y → isCell y = true) :
 pvFits sh (partX sh off x) = true ∧ ∀ (j : Nat) (y : PV),(partX sh off x).cells[j]? = some y → x.cells[off + j]? = some y:=by
 cases sh with
 | none =>
   have hlt : off < x.cells.length:=by simp only [shN] at hl;omega
   have hy : x.cells[off]? = some x.cells[off]:=List.getElem?_eq_getElem hlt
   have hp : partX none off x = x.cells[off]:=by simp [partX,List.getD,hy]
   rw [hp]
   refine ⟨hc off _ hy,fun j y hj => ?_⟩
   rw [cells_of_isCell (hc off _ hy)] at hj
   cases j with
   | zero => simp at hj;rw [← hj];exact hy
   | succ j => simp at hj
 | some m =>
   refine ⟨?_,fun j y hj => ?_⟩
   · simp only [shN] at hl
     simp [partX,pvFits,List.length_take,List.length_drop]
     omega
   · simp only [partX,PV.cells,List.getElem?_take,List.getElem?_drop] at hj
     split at hj
     · exact hj
     · cases hj
theorem sim_load (h : SRel w Oc st tm blk) {a : Arg} {u : Value} {t : TypeId} (ha : ArgRep w (blk.off Oc) st tm a u) (hr : (cLoad P t a).holds r) : Gives P (asNext (Instr.loadAt t u)) w Oc st tm blk r:=by
 obtain ⟨sv,rt⟩:=a
 unfold cLoad at hr
 split at hr
 · exact (Q.holds_no hr).elim
 · rename_i sh hs
   dsimp only at hr
   split at hr
   · rename_i x1 x2 sh' v
     split at hr
     · rename_i hsh
       cases shEq_eq hsh
       cases Q.holds_quietP hr
       obtain ⟨z,h1,h2⟩:=ha.rep.2.ptr_load hs
       exact .val h (run_asNext h1) h2
     · exact (Q.holds_no hr).elim
   · rename_i x1 x2 sh' v
     split at hr
     · rename_i hsh
       cases shEq_eq hsh
       obtain ⟨ht,hr⟩:=Q.holds_need hr
       cases Q.holds_quietP hr
       obtain ⟨z,h1,h2⟩:=(ha.val rfl).ptr_load hs
       rw [etaT_eq ht]
       exact .val h (run_asNext h1) h2
     · split at hr
       · rename_i y _
         obtain ⟨ht,hr⟩:=Q.holds_need hr
         cases Q.holds_quietP hr
         obtain ⟨z,h1,h2⟩:=(ha.val rfl).ptr_one.ptr_load hs
         rw [etaT_eq ht]
         exact .val h (run_asNext h1) h2
       · exact (Q.holds_no hr).elim
   · rename_i x1 x2 s x3 cs
     obtain ⟨o,ho⟩:=ha.some_ s rfl
     cases ho
     obtain ⟨hg,_⟩:=ha.root s _ rfl
     have hrep:=h.rep s
     rw [hg] at hrep
     have hu:=(ha.rep.2 _ hg).2.top_eq
     subst hu
     have hb : ∃ b,tm s = .pointer (some ⟨b,0,none⟩):=by
      obtain ⟨b,hb,_⟩:=ORep.box_inv hrep
      exact ⟨b,hb⟩
     obtain ⟨b,hb⟩:=hb
     obtain ⟨z,h1,h2,h3⟩:=load_adr (P:=P) h hs hg (b:=b) (by rw [hb];rfl) hr
     obtain ⟨r1,r2⟩:=r
     dsimp only at h2 h3
     subst h2
     rw [hb]
     exact .quiet h (run_asNext h1) h3
   · rename_i x1 x2 s j x3 k cs
     obtain ⟨o,ho⟩:=ha.some_ s rfl
     cases ho
     obtain ⟨hg,_⟩:=ha.root s _ rfl
     obtain ⟨b,hb,rfl⟩:=ha.rep.2 _ hg
     obtain ⟨z,h1,h2,h3⟩:=load_adr (P:=P) h hs hg hb hr
     obtain ⟨r1,r2⟩:=r
     dsimp only at h2 h3
     subst h2
     exact .quiet h (run_asNext h1) h3
   · rename_i x1 x2 s j x3 cs
     split at hr
     · rename_i hp
       obtain ⟨o,ho⟩:=ha.some_ s rfl
       cases ho
       obtain ⟨hg,_⟩:=ha.root s _ rfl
       obtain ⟨b,hb,rfl⟩:=ha.rep.2 _ hg
       obtain ⟨hl,hr⟩:=Q.holds_need hr
       obtain ⟨ht,hr⟩:=Q.holds_need hr
       cases Q.holds_quietP hr
       simp only [Bool.and_eq_true,Nat.ble_eq,Nat.blt_eq] at hl
       rw [etaT_eq ht]
       obtain ⟨z,h1,h2,h3⟩:=load_adr (P:=P) h hs hg hb (loadCells_pick hp hl.1 hl.2)
       exact .quiet h (run_asNext h1) h3
     · exact (Q.holds_no hr).elim
   · rename_i x1 x2 s c i off x3 o
     obtain ⟨o',ho⟩:=ha.some_ s rfl
     cases ho
     obtain ⟨hg,_⟩:=ha.root s _ rfl
     split at hr
     · rename_i sh0 xs sp hx
       split at hr
       · rename_i hc
         simp only [Bool.and_eq_true] at hc
         cases shEq_eq hc.2
         cases Nat.eq_of_beq_eq_true hc.1
         obtain ⟨hi,hr⟩:=Q.holds_need hr
         obtain ⟨ht,hr⟩:=Q.holds_need hr
         cases Q.holds_quietP hr
         rw [etaT_eq ht]
         have hi : i < xs.length:=by rw [Nat.blt_eq] at hi;exact hi
         obtain ⟨x,b,hp,hb,rfl⟩:=ha.rep.2 _ _ _ _ hg hx
         obtain ⟨b',hf,_⟩:=own_at h hg hx hp
         have hxi : xs[i]? = some (nthP xs i):=by simp [nthP,List.getD,hi]
         cases hf with
         | ownE => simp at hi
         | own sh0 _ _ b2 c2 cur ty fr us hown =>
           simp only [blockOf,Option.some.injEq] at hb
           subst hb
           obtain ⟨z,h1,h2⟩:=load_cells (P:=P) (w:=w) (O:=blk.off Oc) hs (v:=nthP xs i) (a:=⟨b2,i * shN sh + 0,none⟩) (us:=fun j => us i j) (hown.fits _ _ hxi) (fun j y hj => hown.cell _ _ _ _ hxi hj)
            (fun j y hj => by rw [addr_add,cell_at hown.heap];exact hown.at_ _ _ _ _ hxi hj) (fun j y hj => hown.rep _ _ _ _ hxi hj)
           exact .val h (run_asNext (by simpa [Instr.loadAt,Instr.sureAddr] using h1)) h2
       · rename_i hc
         split at hr
         · rename_i n
           obtain ⟨hi,hr⟩:=Q.holds_need hr
           obtain ⟨hl,hr⟩:=Q.holds_need hr
           obtain ⟨ht,hr⟩:=Q.holds_need hr
           cases Q.holds_quietP hr
           rw [etaT_eq ht]
           simp only [Bool.and_eq_true,Nat.ble_eq] at hl
           have hi : i < xs.length:=by rw [Nat.blt_eq] at hi;exact hi
           obtain ⟨x,b,hp,hb,rfl⟩:=ha.rep.2 _ _ _ _ hg hx
           obtain ⟨b',hf,_⟩:=own_at h hg hx hp
           have hxi : xs[i]? = some (nthP xs i):=by simp [nthP,List.getD,hi]
           cases hf with
           | ownE => simp at hi
           | own sh0 _ _ b2 c2 cur ty fr us hown =>
             simp only [blockOf,Option.some.injEq] at hb
             subst hb
             have hcell : ∀ (j : Nat) (y : PV),(nthP xs i).cells[j]? = some y → isCell y = true:=fun j y hj => hown.cell _ _ _ _ hxi hj
             obtain ⟨hpf,hpc⟩:=partX_spec (sh:=sh) (off:=off) hl.2 hcell
             obtain ⟨z,h1,h2⟩:=load_cells (P:=P) (w:=w) (O:=blk.off Oc) hs (v:=partX sh off (nthP xs i)) (a:=⟨b2,i * shN (some n) + off,none⟩) (us:=fun j => us i (off + j)) hpf (fun j y hj => hcell _ _ (hpc j y hj))
              (fun j y hj => by rw [addr_add,cell_at hown.heap,Nat.add_assoc];exact hown.at_ _ _ _ _ hxi (hpc j y hj)) (fun j y hj => hown.rep _ _ _ _ hxi (hpc j y hj))
             exact .val h (run_asNext (by simpa [Instr.loadAt,Instr.sureAddr] using h1)) h2
         · exact (Q.holds_no hr).elim
     · exact (Q.holds_no hr).elim
   · exact (Q.holds_no hr).elim
end
end Go.Ev

namespace Go.Ev
section
variable {P : Program} {w : World} {Oc : Nat → Prop} {st : Slots} {tm : Nat → Value} {blk : Blk} {r : List Edit × SV}
theorem ArgRep.home {sv : SV} {s : Nat} {o : OV} {u : Value} (ha : ArgRep w (blk.off Oc) st tm ⟨sv,some (s,o)⟩ u) : st.get s = .home o ∧ sv.root = some s:=ha.root s o rfl
theorem ArgRep.slot {sv : SV} {s s' : Nat} {o : OV} {u : Value} (ha : ArgRep w (blk.off Oc) st tm ⟨sv,some (s,o)⟩ u) (hs : sv.root = some s') : s = s':=by
 obtain ⟨o',ho⟩:=ha.some_ s' hs
 cases ho;rfl
theorem tm_box (h : SRel w Oc st tm blk) {s : Nat} {cs : List FV} (hg : st.get s = .home (.cont .box cs)) : ∃ b,tm s = .pointer (some ⟨b,0,none⟩):=by
 have hrep:=h.rep s
 rw [hg] at hrep
 obtain ⟨b,hb,_⟩:=ORep.box_inv hrep
 exact ⟨b,hb⟩
theorem ORep.nest_inv {O : Nat → Prop} {cs : List FV} {v : Value} {m : Option Nat} {β : Nat → Option Nat} (h : ORep w O (.cont .nest cs) v m β) (hne : cs ≠ []) : ∃ b c,v = .slice (some ⟨b,0,none⟩) cs.length c:=by
 cases h with
 | nestE => exact absurd rfl hne
 | nest cs b c => exact ⟨b,c,rfl⟩
theorem run_indexAt_row {t e : TypeId} (hu : P.underlying t = some (.slice e)) {sh : Option Nat} (hs : tShape P e = some sh) {a : Addr} {n c : Nat} {k : IntKind} {i : Int} (h0 : 0 ≤ i) (h1 : i < n) :
 (Instr.indexAt t (.slice (some a) n c) (.int k i)).run P w = .ok (.pointer (some (a.add (i.toNat * shN sh)))) w:=by
 simp [Instr.indexAt,asIntOf,run_underlying' hu,run_size hs,h0,h1]
theorem run_indexAt_arr {t e : TypeId} {n : Nat} (hu : P.underlying t = some (.array n e)) {sh : Option Nat} (hs : tShape P e = some sh) {a : Addr} {k : IntKind} {i : Int} (h0 : 0 ≤ i) (h1 : i < n) :
 (Instr.indexAt t (.pointer (some a)) (.int k i)).run P w = .ok (.pointer (some (a.add (i.toNat * shN sh)))) w:=by
 simp [Instr.indexAt,asIntOf,run_underlying' hu,run_size hs,h0,h1,Instr.sureAddr]
theorem sim_indexAddr (h : SRel w Oc st tm blk) {a b : Arg} {u v : Value} {t : TypeId} {cx : Bool} (ha : ArgRep w (blk.off Oc) st tm a u) (hb : ArgRep w (blk.off Oc) st tm b v) (hr : (cIndexAddr P t cx a b).holds r) :
 Gives P (asNext (Instr.indexAt t u v)) w Oc st tm blk r:=by
 unfold cIndexAddr at hr
 obtain ⟨i,hi,hr'⟩:=Q.holds_withA hr
 clear hr
 obtain ⟨k,rfl⟩:=hb.int hi
 obtain ⟨h0',hr⟩:=Q.holds_need hr'
 clear hr'
 have h0:=of_decide_eq_true h0'
 clear h0'
 obtain ⟨sv,rt⟩:=a
 split at hr
 · rename_i e hu
   dsimp only at hr
   split at hr
   · rename_i x1 x2 x3 sh sh' xs hs
     split at hr
     · rename_i hsh
       cases shEq_eq hsh
       obtain ⟨h1,hr⟩:=Q.holds_need hr
       obtain ⟨ht,hr⟩:=Q.holds_need hr
       cases Q.holds_quiet hr
       have h1:=of_decide_eq_true h1
       rw [etaT_eq ht]
       have hv:=ha.val rfl
       obtain ⟨A,c,rfl,_⟩:=hv.sl_inv
       have hlt : i.toNat < xs.length:=by omega
       have hxi : xs[i.toNat]? = some (nthP xs i.toNat):=by simp [nthP,List.getD,hlt]
       cases hv with
       | slNil => simp at hlt
       | sl _ _ a c us hc hf hk ho hm hrr =>
         refine .quiet h (run_asNext (run_indexAt_row hu hs h0 h1)) ⟨fun _ => rfl,.ptr sh _ _ (fun j => us i.toNat j) (hf _ _ hxi) (fun j y hj => hk _ _ _ _ hxi hj) (fun j y hj => by rw [add_block];exact ho _ _ _ _ hxi hj) (fun j y hj => ?_) (fun j y hj => hrr _ _ _ _ hxi hj)⟩
         rw [add_add];exact hm _ _ _ _ hxi hj
     · exact (Q.holds_no hr).elim
   · rename_i x1 x2 x3 sh s c s' o hs
     cases ha.slot rfl
     obtain ⟨hg,_⟩:=ha.home
     split at hr
     · rename_i sh' xs sp hx
       split at hr
       · rename_i hsh
         cases shEq_eq hsh
         obtain ⟨h1,hr⟩:=Q.holds_need hr
         cases Q.holds_quiet hr
         have h1:=of_decide_eq_true h1
         obtain ⟨_,hp⟩:=ha.rep.2 o hg
         obtain ⟨b',hf,_⟩:=own_at h hg hx hp
         cases hf with
         | ownE => simp at h1;omega
         | own _ _ _ b2 c2 cur ty fr us hown =>
           refine .quiet h (run_asNext (run_indexAt_row hu hs h0 h1)) ⟨fun _ => rfl,fun o' sh2 xs2 sp2 ho' hx' => ?_⟩
           rw [hg] at ho'
           cases ho'
           rw [hx] at hx'
           cases hx'
           exact ⟨_,b2,hp,rfl,by simp [addr_add]⟩
       · exact (Q.holds_no hr).elim
     · rename_i cs hx
       split at hr
       · rename_i x4 x5
         obtain ⟨h1,hr⟩:=Q.holds_need hr
         cases Q.holds_quiet hr
         have h1:=of_decide_eq_true h1
         simp only [OV.at,Option.some.injEq] at hx
         subst hx
         have hu':=(ha.rep.2 _ hg).2.top_eq
         subst hu'
         have hrep:=h.rep s
         rw [hg] at hrep
         have : ∃ b c,tm s = .slice (some ⟨b,0,none⟩) cs.length c:=by
          have hne : cs ≠ []:=by rintro rfl;simp at h1;omega
          obtain ⟨b,c,hb⟩:=ORep.nest_inv hrep hne
          exact ⟨b,c,hb⟩
         obtain ⟨b,c,hb⟩:=this
         rw [hb]
         refine .quiet h (run_asNext (run_indexAt_row hu hs h0 h1)) ⟨fun _ => rfl,fun o' ho' => ⟨b,by rw [hb];rfl,by simp [addr_add,shN]⟩⟩
       · exact (Q.holds_no hr).elim
     · exact (Q.holds_no hr).elim
   · rename_i x1 x2 x3 sh s c l h' s' o hs
     cases ha.slot rfl
     obtain ⟨hg,_⟩:=ha.home
     split at hr
     · rename_i sh' xs sp hx
       split at hr
       · rename_i hsh
         cases shEq_eq hsh
         obtain ⟨h1,hr⟩:=Q.holds_need hr
         cases Q.holds_quiet hr
         have h1:=of_decide_eq_true h1
         obtain ⟨v1,v2,x,hp,hv⟩:=ha.rep.2 _ _ _ _ hg hx
         have hlen : ((xs.drop l).take (h' - l)).length = h' - l:=by simp;omega
         rw [hlen] at h1
         rcases hv with ⟨b,n,cap,c',q1,q2,rfl,q4,_⟩ | ⟨q1,A',c',q3,q4⟩
         · refine .quiet h (run_asNext (run_indexAt_row hu hs h0 h1)) ⟨fun _ => rfl,fun o' sh2 xs2 sp2 ho' hx' => ?_⟩
           rw [hg] at ho'
           cases ho'
           rw [hx] at hx'
           cases hx'
           exact ⟨_,b,hp,q1,by simp [addr_add,Nat.add_mul]⟩
         · subst q1;simp at h1;omega
       · exact (Q.holds_no hr).elim
     · exact (Q.holds_no hr).elim
   · exact (Q.holds_no hr).elim
 · rename_i n e hu
   split at hr
   · rename_i x1 x2 sh hn hs
     obtain ⟨h1',hr'⟩:=Q.holds_need hr
     clear hr
     have h1:=of_decide_eq_true h1'
     clear h1'
     dsimp only at hr'
     split at hr'
     · rename_i x3 x4 s s' cs
       cases Q.holds_quiet hr'
       cases ha.slot rfl
       obtain ⟨hg,_⟩:=ha.home
       have hu':=(ha.rep.2 _ hg).2.top_eq
       subst hu'
       obtain ⟨b,hb⟩:=tm_box h hg
       rw [hb]
       refine .quiet h (run_asNext (run_indexAt_arr hu hs h0 h1)) ?_
       cases cx <;> exact ⟨fun _ => rfl,fun o' ho' => ⟨b,by rw [hb];rfl,by simp [addr_add]⟩⟩
     · rename_i x3 x4 s j s' cs
       cases Q.holds_quiet hr'
       cases ha.slot rfl
       obtain ⟨hg,_⟩:=ha.home
       obtain ⟨b,hb,rfl⟩:=ha.rep.2 _ hg
       refine .quiet h (run_asNext (run_indexAt_arr hu hs h0 h1)) ?_
       cases cx <;> exact ⟨fun _ => rfl,fun o' ho' => ⟨b,hb,by simp [addr_add]⟩⟩
     · rename_i x3 x4 s j s' cs
       cases Q.holds_quiet hr'
       cases ha.slot rfl
       obtain ⟨hg,_⟩:=ha.home
       obtain ⟨b,hb,rfl⟩:=ha.rep.2 _ hg
       exact .quiet h (run_asNext (run_indexAt_arr hu hs h0 h1)) ⟨fun _ => rfl,fun o' ho' => ⟨b,hb,by simp [addr_add]⟩⟩
     · exact (Q.holds_no hr').elim
   · exact (Q.holds_no hr).elim
 · exact (Q.holds_no hr).elim
theorem run_fieldAt' {t : TypeId} {f : Nat} {off : Nat} {sh : Option Nat} {ft : TypeId} (h : fieldOf P t f = some (off,sh,ft)) {b j : Nat} :
 (Instr.fieldAt t (.pointer (some ⟨b,j,none⟩)) f).run P w = .ok (.pointer (some ⟨b,j + off,none⟩)) w:=by
 rw [run_fieldAt h,addr_add]
theorem sim_fieldAddr (h : SRel w Oc st tm blk) {a : Arg} {u : Value} {t : TypeId} {f : Nat} (ha : ArgRep w (blk.off Oc) st tm a u) (hr : (cFieldAddr P t f a).holds r) :
 Gives P (asNext (Instr.fieldAt t u f)) w Oc st tm blk r:=by
 unfold cFieldAddr at hr
 obtain ⟨⟨off,sh,ft⟩,hf,hr'⟩:=Q.holds_withA hr
 clear hr
 obtain ⟨sv,rt⟩:=a
 dsimp only at hr'
 split at hr'
 · rename_i x1 x2 s s' cs
   cases Q.holds_quiet hr'
   cases ha.slot rfl
   obtain ⟨hg,_⟩:=ha.home
   have hu':=(ha.rep.2 _ hg).2.top_eq
   subst hu'
   obtain ⟨b,hb⟩:=tm_box h hg
   rw [hb]
   exact .quiet h (run_asNext (run_fieldAt' hf)) ⟨fun _ => rfl,fun o' ho' => ⟨b,by rw [hb];rfl,by simp⟩⟩
 · rename_i x1 x2 s j s' cs
   cases Q.holds_quiet hr'
   cases ha.slot rfl
   obtain ⟨hg,_⟩:=ha.home
   obtain ⟨b,hb,rfl⟩:=ha.rep.2 _ hg
   exact .quiet h (run_asNext (run_fieldAt' hf)) ⟨fun _ => rfl,fun o' ho' => ⟨b,hb,rfl⟩⟩
 · rename_i x1 x2 s j s' cs
   cases Q.holds_quiet hr'
   cases ha.slot rfl
   obtain ⟨hg,_⟩:=ha.home
   obtain ⟨b,hb,rfl⟩:=ha.rep.2 _ hg
   exact .quiet h (run_asNext (run_fieldAt' hf)) ⟨fun _ => rfl,fun o' ho' => ⟨b,hb,rfl⟩⟩
 · rename_i x1 x2 s c i o s' oo
   cases ha.slot rfl
   obtain ⟨hg,_⟩:=ha.home
   split at hr'
   · rename_i sh0 xs sp hx
     cases Q.holds_quiet hr'
     obtain ⟨x,b,hp,hb,rfl⟩:=ha.rep.2 _ _ _ _ hg hx
     refine .quiet h (run_asNext (run_fieldAt' hf)) ⟨fun _ => rfl,fun o' sh2 xs2 sp2 ho' hx' => ?_⟩
     rw [hg] at ho'
     cases ho'
     rw [hx] at hx'
     cases hx'
     exact ⟨x,b,hp,hb,by simp [Nat.add_assoc]⟩
   · exact (Q.holds_no hr').elim
 · rename_i x1 x2 n cs
   obtain ⟨v,hv,hr⟩:=Q.holds_withA hr'
   cases Q.holds_quiet hr
   have hrep:=ha.rep.2
   obtain ⟨a,rfl⟩:=hrep.ptr_inv
   exact .quiet h (run_asNext (run_fieldAt hf a)) ⟨fun _ => rfl,hrep.ptr_part hv⟩
 · rename_i x1 x2 p
   obtain ⟨ht,hr⟩:=Q.holds_need hr'
   simp only [Bool.and_eq_true] at ht
   obtain ⟨hp,ht⟩:=ht
   rw [etaT_eq ht] at hr
   have hrep:=ha.val rfl
   obtain ⟨n,v,rfl⟩ : ∃ n v,p = .ptr (some n) v:=by
    unfold isPtrS at hp
    split at hp
    · exact ⟨_,_,rfl⟩
    · cases hp
   obtain ⟨a,rfl⟩:=hrep.ptr_inv
   simp only [PV.deref] at hr
   cases v with
   | agg cs =>
     obtain ⟨v,hv,hr⟩:=Q.holds_withA hr
     cases Q.holds_quiet hr
     exact .quiet h (run_asNext (run_fieldAt hf a)) ⟨fun _ => rfl,hrep.ptr_part hv⟩
   | _ => exact (Q.holds_no hr).elim
 · exact (Q.holds_no hr').elim
theorem run_field_part {t : TypeId} {f : Nat} {off : Nat} {sh : Option Nat} {ft : TypeId} (h : fieldOf P t f = some (off,sh,ft)) {xs : Array Value} :
 (Instr.field t (.agg xs) f).run P w = match sh with
   | none => match xs[off]? with
     | some v => .ok v w
     | none => (stuck "part: no such cell" : Sem Value).run P w
   | some n => .ok (.agg (xs.extract off (off + n))) w:=by
 obtain ⟨fs,g,hu,hg,rfl,rfl,hsh,hz⟩:=fieldOf_spec h
 simp only [Instr.field,Sem.run_bind,run_underlying' hu,Result.andThen_ok,hg,asAgg,Sem.run_pure,part]
 obtain ⟨i,hi,hc⟩:=tShape_spec (w:=w) hsh
 rcases hc with ⟨n,rfl,hs,hag⟩ | ⟨rfl,hs,hag⟩
 · simp only [hag,Result.andThen_ok]
   simp [run_sizeOf' hi,hs]
 · simp only [hag,Result.andThen_ok]
   cases xs[g.offset]? <;> simp
theorem sim_field (h : SRel w Oc st tm blk) {a : Arg} {u : Value} {t : TypeId} {f : Nat} (ha : ArgRep w (blk.off Oc) st tm a u) (hr : (cField P t f a).holds r) :
 Gives P (asNext (Instr.field t u f)) w Oc st tm blk r:=by
 unfold cField at hr
 obtain ⟨⟨off,sh,ft⟩,hf,hr'⟩:=Q.holds_withA hr
 clear hr
 obtain ⟨sv,rt⟩:=a
 dsimp only at hr'
 split at hr'
 · rename_i x1 x2 cs
   obtain ⟨v,hv,hr⟩:=Q.holds_withA hr'
   cases Q.holds_quietP hr
   obtain ⟨xs,rfl,hxs⟩:=(ha.val rfl).agg_cells
   obtain ⟨hl,hc⟩:=partOf_spec hv
   have hok : ∀ (j : Nat) (y : PV),cs[j]? = some y → isCell y = true:=by
    have:=ha.val rfl
    cases this with
    | agg _ _ us _ hk => exact hk
   rcases hc with ⟨rfl,hv⟩ | ⟨n,rfl,rfl⟩
   · obtain ⟨z,h1,h2⟩:=hxs.rep _ _ hv
     exact .val h (run_asNext (by rw [run_field_part hf];dsimp only;rw [h1])) h2
   · have hp:=cellsOf_part hxs off n
     refine .val h (run_asNext (run_field_part hf)) (.agg _ _ (fun j => (xs.extract off (off + n)).getD j Go.undef) hp.size (fun j y hj => ?_) (fun j y hj => ?_) (fun j y hj => ?_))
     · rw [List.getElem?_take] at hj
       split at hj
       · rw [List.getElem?_drop] at hj;exact hok _ _ hj
       · cases hj
     all_goals
      obtain ⟨z,h1,h2⟩:=hp.rep j y hj
      simp only [Array.getD_eq_getD_getElem?]
      rw [h1]
     · rfl
     · exact h2
 · rename_i x1 x2 s s' cs
   cases ha.slot rfl
   obtain ⟨hg,_⟩:=ha.home
   have hu':=(ha.rep.2 _ hg).2.top_eq
   subst hu'
   have hrep:=h.rep s
   rw [hg] at hrep
   obtain ⟨us,hus,hl,_,hcs⟩:=ORep.agg_inv hrep
   rw [hus]
   have hpath : ∀ (q : Nat) (f : FV),cs[q]? = some f → ∃ z,us[q]? = some z ∧ PathV w (tm s) (.cont .agg cs) (some q) z:=by
    intro q f hq
    obtain ⟨z,h1,_⟩:=hcs.rep q f hq
    exact ⟨z,h1,by rw [hus];exact .agg _ _ _ _ h1⟩
   cases sh with
   | none =>
     have : ∃ f,cs[off]? = some f:=by
      unfold loadCells at hr'
      cases hj : cs[off]? with
      | none => simp only [hj] at hr';exact (Q.holds_no hr').elim
      | some f => exact ⟨f,rfl⟩
     obtain ⟨fv,hj⟩:=this
     obtain ⟨z,h1,h2⟩:=hpath _ _ hj
     obtain ⟨e1,e2⟩:=loadCells_rep h hg (by simp) hr' (u:=z) h2
     obtain ⟨r1,r2⟩:=r
     dsimp only at e1 e2
     subst e1
     exact .quiet h (run_asNext (by rw [run_field_part hf];dsimp only;rw [h1])) e2
   | some n =>
     have hle : off + n ≤ cs.length:=by
      unfold loadCells at hr'
      dsimp only at hr'
      split at hr'
      · rename_i vs hvs
        unfold rangeVals at hvs
        split at hvs
        · rename_i h1 _;exact Nat.le_of_ble_eq_true h1
        · cases hvs
      · split at hr'
        · rename_i h1;exact Nat.le_of_ble_eq_true h1
        · exact (Q.holds_no hr').elim
     have hrange : RangeV w (tm s) (.cont .agg cs) off n (.agg (us.extract off (off + n))):=by
      refine ⟨_,rfl,by simp;omega,fun q hq => ?_⟩
      obtain ⟨z,h1,h2⟩:=hpath (off + q) (cs[off + q]'(by omega)) (by simp)
      exact ⟨z,by rw [Array.getElem?_extract,if_pos (by omega)];exact h1,h2⟩
     obtain ⟨e1,e2⟩:=loadCells_rep h hg (by simp) hr' hrange
     obtain ⟨r1,r2⟩:=r
     dsimp only at e1 e2
     subst e1
     exact .quiet h (run_asNext (run_field_part hf)) e2
 · exact (Q.holds_no hr').elim
theorem isPtr_spec {sh : Option Nat} {v : PV} (h : isPtr sh v = true) : ∃ x,v = .ptr sh x:=by
 cases v with
 | ptr sh' x => cases shEq_eq (show shEq sh sh' = true from h);exact ⟨x,rfl⟩
 | _ => simp [isPtr] at h
theorem isFn_spec {v : PV} (h : isFn v = true) : ∃ f a b,v = .fn (.func f) a b:=by
 cases v with
 | fn f a b => cases f <;> simp [isFn] at h;exact ⟨_,_,_,rfl⟩
 | _ => simp [isFn] at h
theorem run_nilCheck {ρ : Operand → Value} {o : Oper} {x : Operand} (ho : o.op = .nilCheck x) {u : Value} (hu : ρ x = u) (hn : (∃ a,u = .pointer (some a)) ∨ ∃ f a b,u = .func (.func f) a b) : (execOp ρ o).run P w = .ok (.value u) w:=by
 subst hu
 rcases hn with ⟨a,ha⟩ | ⟨f,a,b,ha⟩ <;> simp [execOp,ho,ha]
theorem sim_nilCheck (h : SRel w Oc st tm blk) {a : Arg} {u : Value} {t : TypeId} {s : Sem Next} (ha : ArgRep w (blk.off Oc) st tm a u) (hr : (cNilCheck P t a).holds r)
 (hs : ((∃ a,u = .pointer (some a)) ∨ ∃ f a b,u = .func (.func f) a b) → s.run P w = .ok (.value u) w) : Gives P s w Oc st tm blk r:=by
 unfold cNilCheck at hr
 obtain ⟨sv,rt⟩:=a
 dsimp only at hr
 split at hr
 · rename_i x1 x2 v
   split at hr
   · rename_i e hu
     split at hr
     · rename_i sh hsh
       obtain ⟨hc,hr⟩:=Q.holds_need hr
       cases Q.holds_quietP hr
       simp only [Bool.and_eq_true] at hc
       obtain ⟨x,rfl⟩:=isPtr_spec hc.1
       rw [etaT_eq hc.2]
       have hrep:=ha.val rfl
       obtain ⟨a,rfl⟩:=hrep.ptr_inv
       exact .val h (hs (.inl ⟨a,rfl⟩)) hrep
     · exact (Q.holds_no hr).elim
   · rename_i hu
     obtain ⟨hc,hr⟩:=Q.holds_need hr
     cases Q.holds_quietP hr
     obtain ⟨f,p,q,rfl⟩:=isFn_spec hc
     have hrep:=ha.val rfl
     refine .val h (hs (.inr ?_)) hrep
     cases hrep with
     | fn => exact ⟨_,_,_,rfl⟩
   · obtain ⟨hc,hr⟩:=Q.holds_need hr
     cases Q.holds_quietP hr
     have hrep:=ha.val rfl
     cases v <;> simp [isPtrV] at hc
     obtain ⟨a,rfl⟩:=hrep.ptr_inv
     exact .val h (hs (.inl ⟨a,rfl⟩)) hrep
 · rename_i x1 x2 s' s2 cs
   cases Q.holds_quiet hr
   cases ha.slot rfl
   obtain ⟨hg,_⟩:=ha.home
   have hu':=(ha.rep.2 _ hg).2.top_eq
   obtain ⟨b,hb⟩:=tm_box h hg
   exact .quiet h (hs (.inl ⟨_,hu'.trans hb⟩)) ha.rep
 · rename_i x1 x2 s' j s2 cs
   cases Q.holds_quiet hr
   cases ha.slot rfl
   obtain ⟨hg,_⟩:=ha.home
   obtain ⟨b,hb,hu'⟩:=ha.rep.2 _ hg
   exact .quiet h (hs (.inl ⟨_,hu'⟩)) ha.rep
 · rename_i x1 x2 s' j s2 cs
   cases Q.holds_quiet hr
   cases ha.slot rfl
   obtain ⟨hg,_⟩:=ha.home
   obtain ⟨b,hb,hu'⟩:=ha.rep.2 _ hg
   exact .quiet h (hs (.inl ⟨_,hu'⟩)) ha.rep
 · rename_i x1 x2 sh v
   cases Q.holds_quiet hr
   obtain ⟨a,ha'⟩:=ha.rep.2.ptr_inv
   exact .quiet h (hs (.inl ⟨_,ha'⟩)) ha.rep
 · exact (Q.holds_no hr).elim
theorem sim_extract_tn (h : SRel w Oc st tm blk) {s i : Nat} {cs : List FV} {ps : List PV} (hg : st.get s = .home (.tn cs ps))
 (hr : (match i with
 | 0 => ok ([⟨s,.home (.cont .tup (.gone :: ps.map .val)),.cells 0 (cs.length + ps.length + 1)⟩],.home (.cont .nest cs))
 | j + 1 => match ps[j]? with
   | some v => quietP v
   | none => no : Res).holds r) :
 Gives P (asNext (Instr.extract (tm s) i)) w Oc st tm blk r:=by
 have hrep:=h.rep s
 rw [hg] at hrep
 have hrep : ORep w (blk.off Oc) (.tn cs ps) (tm s) (blk s none) (fun j => blk s (some j)):=hrep
 have hinv : ∃ (us : Array Value) (u0 : Value),tm s = .tuple us ∧ ORep w (blk.off Oc) (.cont .nest cs) u0 (blk s none) (fun j => blk s (some j)) ∧ us.size = ps.length + 1 ∧ us[0]? = some u0 ∧
  ∀ (j : Nat) (p : PV),ps[j]? = some p → ∃ u,us[j + 1]? = some u ∧ RepV w (blk.off Oc) p u:=by
  generalize tm s = v at hrep
  generalize blk s none = m at hrep
  generalize (fun j => blk s (some j)) = β at hrep
  cases hrep with
  | tn _ _ us u0 _ _ hn hl h0 hp => exact ⟨us,u0,rfl,hn,hl,h0,hp⟩
 obtain ⟨us,u0,htm,hn,hl,h0,hp⟩:=hinv
 have hrun : ∀ {i : Nat} {z : Value},us[i]? = some z → (Instr.extract (tm s) i).run P w = .ok z w:=by
  intro i z hz
  rw [htm]
  simp [Instr.extract,hz]
 match i,hr with
 | j + 1,hr =>
   dsimp only at hr
   split at hr
   · rename_i v hv
     cases Q.holds_quietP hr
     obtain ⟨z,h1,h2⟩:=hp j v hv
     exact .val h (run_asNext (hrun h1)) h2
   · exact (Q.holds_no hr).elim
 | 0,hr =>
   cases Q.holds_ok hr
   have hgn : ∀ (j : Nat) (f : FV),(FV.gone :: ps.map FV.val)[j]? = some f → f = .gone ∨ ∃ v,f = .val v:=by
    intro j f hj
    cases j with
    | zero => simp at hj;exact .inl hj.symm
    | succ j =>
      simp at hj
      obtain ⟨v,_,rfl⟩:=hj
      exact .inr ⟨v,rfl⟩
   have hoff : ∀ k,k < w.heap.size → ¬ blk.off Oc k → w.heap[k]? = w.heap[k]? ∧ ¬ Blk.off (updN blk s fun _ => none) (fun k => Oc k ∨ ∃ c,blk s c = some k) k:=by
    intro k _ hno
    refine ⟨rfl,?_⟩
    rintro (⟨t,c,x⟩ | x | ⟨c,x⟩)
    · by_cases ht : t = s
      · subst ht;rw [updN_same] at x;cases x
      · rw [updN_ne _ _ ht] at x;exact hno (.inl ⟨t,c,x⟩)
    · exact hno (.inr x)
    · exact hno (.inl ⟨s,c,x⟩)
   have key:=SRel.edit (w':=w) (Oc':=fun k => Oc k ∨ ∃ c,blk s c = some k) h ⟨s,.home (.cont .tup (.gone :: ps.map .val)),.cells 0 (cs.length + ps.length + 1)⟩ (tm s) (fun _ => none)
    (Nat.le_refl _) (fun _ _ _ _ => rfl) (fun k _ x => x) (by simp) (by simp)
    (by
      show ORep _ _ _ _ _ _
      rw [htm]
      refine .tup _ us (fun _ => none) (by simp [hl]) ⟨fun j f hj => ?_,fun _ _ => rfl⟩
      cases j with
      | zero =>
        simp at hj;subst hj
        exact ⟨u0,h0,.gone _⟩
      | succ j =>
        simp at hj
        obtain ⟨v,hv,rfl⟩:=hj
        obtain ⟨u,h1,h2⟩:=hp j v hv
        exact ⟨u,h1,.val _ _ (h2.move hoff)⟩)
    (fun t ht hroot hv => by
      rw [get_on] at hroot ⊢
      dsimp only at hroot ⊢
      obtain ⟨e1,e2,_⟩:=cutCells_keeps hroot
      rw [e1]
      have hnew : ((Edit.mk s (.home (.cont .tup (.gone :: ps.map .val))) (.cells 0 (cs.length + ps.length + 1))).on st).get s = .home (.cont .tup (.gone :: ps.map .val)):=by rw [get_edit];simp
      generalize hsv : st.get t = sv at hv e2
      cases sv with
      | dead => simp [SV.root] at e2
      | home => simp [SV.root] at e2
      | fadr => simp [SV.root] at e2
      | ref r c =>
        obtain rfl : r = s:=by simpa [SV.root] using e2
        cases c with
        | none => exact ⟨hv.1,fun o ho => ⟨⟨o,rfl⟩,by rw [updN_same,(hv.2 _ hg).2.top_eq];exact .top _ _⟩⟩
        | some j =>
          obtain ⟨⟨x,hx⟩,_⟩:=hv.2 _ hg
          simp [OV.at] at hx
      | adr r j =>
        obtain rfl : r = s:=by simpa [SV.root] using e2
        obtain ⟨b,hb,_⟩:=hv.2 _ hg
        rw [htm] at hb
        simp [blockOf] at hb
      | adrx r j =>
        obtain rfl : r = s:=by simpa [SV.root] using e2
        obtain ⟨b,hb,_⟩:=hv.2 _ hg
        rw [htm] at hb
        simp [blockOf] at hb
      | adre r c i off =>
        obtain rfl : r = s:=by simpa [SV.root] using e2
        refine ⟨hv.1,fun o sh xs sp ho hx => ?_⟩
        rw [hnew] at ho
        cases ho
        cases c with
        | none => simp [OV.at] at hx
        | some j =>
          obtain ⟨k,cs',f,he,hj,hf⟩:=at_cont hx
          cases he
          rcases hgn j f hj with rfl | ⟨v,rfl⟩ <;> simp at hf
      | view r c l h' =>
        obtain rfl : r = s:=by simpa [SV.root] using e2
        refine ⟨hv.1,fun o sh xs sp ho hx => ?_⟩
        rw [hnew] at ho
        cases ho
        cases c with
        | none => simp [OV.at] at hx
        | some j =>
          obtain ⟨k,cs',f,he,hj,hf⟩:=at_cont hx
          cases he
          rcases hgn j f hj with rfl | ⟨v,rfl⟩ <;> simp at hf
      | rng r j n =>
        obtain rfl : r = s:=by simpa [SV.root] using e2
        obtain ⟨⟨k,cs',he,_⟩,_⟩:=hv.2 _ hg
        cases he)
   rw [updN_self] at key
   refine ⟨⟨_,u0,w,_,blk s,run_asNext (hrun h0),.inl rfl,Grow.refl _ _,⟨key,fun c c' k h1 h2 => (h.inj _ _ _ _ _ h1 h2).2,fun c k hk => h.out _ _ _ hk,?_⟩,?_,fun c k hk => .inl ⟨s,c,hk⟩⟩⟩
   · show ORep _ _ _ _ _ _
     exact hn.move ⟨hoff,fun _ _ => rfl⟩
   · intro t c k q
     by_cases ht : t = s
     · subst ht;rw [updN_same] at q;cases q
     · rw [updN_ne _ _ ht] at q;exact .inl ⟨t,c,q⟩
theorem sim_extract (h : SRel w Oc st tm blk) {a : Arg} {u : Value} {i : Nat} (ha : ArgRep w (blk.off Oc) st tm a u) (hr : (cExtract i a).holds r) :
 Gives P (asNext (Instr.extract u i)) w Oc st tm blk r:=by
 unfold cExtract at hr
 obtain ⟨sv,rt⟩:=a
 dsimp only at hr
 split at hr
 · rename_i x1 x2 s s' cs
   cases ha.slot rfl
   obtain ⟨hg,_⟩:=ha.home
   have hu':=(ha.rep.2 _ hg).2.top_eq
   subst hu'
   have hrep:=h.rep s
   rw [hg] at hrep
   obtain ⟨us,hus⟩:=ORep.tup_inv hrep
   have hcell : ∀ f,cs[i]? = some f → ∃ z,(Instr.extract (tm s) i).run P w = .ok z w ∧ PathV w (tm s) (.cont .tup cs) (some i) z ∧ FRep w (blk.off Oc) f z (blk s (some i)):=by
    intro f hf
    obtain ⟨z,h1,h2⟩:=ORep.cellAt hrep hf
    refine ⟨z,?_,h1,h2⟩
    rw [hus] at h1 ⊢
    cases h1 with
    | tup _ _ _ _ h1 => simp [Instr.extract,h1]
   split at hr
   · rename_i v hv
     cases Q.holds_quietP hr
     obtain ⟨z,h1,h2,h3⟩:=hcell _ hv
     exact .val h (run_asNext h1) h3.val_inv.1
   · rename_i sh hv
     cases Q.holds_quiet hr
     obtain ⟨z,h1,h2,h3⟩:=hcell _ hv
     rw [h3.nil_inv.1] at h1
     exact .quiet h (run_asNext h1) (.flat _ _ _ (.nil _))
   · rename_i sh xs sp hv
     cases Q.holds_quiet hr
     obtain ⟨z,h1,h2,h3⟩:=hcell _ hv
     refine .quiet h (run_asNext h1) ⟨fun _ => rfl,fun o ho => ?_⟩
     rw [hg] at ho
     cases ho
     exact ⟨⟨.flat (.own sh xs sp),by simp only [OV.at,hv]⟩,h2⟩
   · exact (Q.holds_no hr).elim
 · rename_i x1 x2 s s' cs ps
   cases ha.slot rfl
   obtain ⟨hg,_⟩:=ha.home
   have hu':=(ha.rep.2 _ hg).2.top_eq
   subst hu'
   exact sim_extract_tn h hg hr
 · exact (Q.holds_no hr).elim
end
end Go.Ev

