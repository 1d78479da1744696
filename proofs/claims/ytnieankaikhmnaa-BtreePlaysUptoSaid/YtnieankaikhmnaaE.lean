/- What the functions answer, and the laws. -/
import Derived.Test.YtnieankaikhmnaaSh

set_option linter.unusedVariables false

set_option linter.unusedSimpArgs false

set_option linter.unusedSectionVars false

set_option linter.unusedSimpArgs false
set_option linter.unusedVariables false
namespace Go.T14
open Go Go.Ev
theorem Sorted.cons_iff {a : Ent} {l : List Ent} : Sorted (a :: l) ↔ (∀ x ∈ l,Op.bytesLess a.k x.k = true) ∧ Sorted l:=List.pairwise_cons
theorem Sorted.append_iff {a b : List Ent} : Sorted (a ++ b) ↔ Sorted a ∧ Sorted b ∧ ∀ x ∈ a,∀ y ∈ b,Op.bytesLess x.k y.k = true:=List.pairwise_append
theorem Sorted.filter {l : List Ent} (p : Ent → Bool) (h : Sorted l) : Sorted (l.filter p):=List.Pairwise.filter p h
theorem filter_all {α : Type} {p : α → Bool} {l : List α} (h : ∀ x ∈ l,p x = true) : l.filter p = l:=List.filter_eq_self.2 h
theorem filter_none {α : Type} {p : α → Bool} {l : List α} (h : ∀ x ∈ l,p x = false) : l.filter p = []:=List.filter_eq_nil_iff.2 fun x hx => by rw [h x hx];simp
theorem lt_none {a : Ent} {l : List Ent} {k : List UInt8} (h : ∀ x ∈ l,Op.bytesLess a.k x.k = true) (ha : Op.bytesLess a.k k = false) : ∀ x ∈ l,Op.bytesLess x.k k = false:=fun x hx => by
 cases hb : Op.bytesLess x.k k with
 | false => rfl
 | true => rw [← ha];exact (less_trans (h x hx) hb).symm
theorem ltc_cons (k : List UInt8) (a : Ent) (l : List Ent) : ltc k (a :: l) = (if Op.bytesLess a.k k = true then 1 else 0) + ltc k l:=by
 unfold ltc
 by_cases h : Op.bytesLess a.k k = true
 · rw [List.filter_cons,if_pos h,if_pos h,List.length_cons];omega
 · rw [List.filter_cons,if_neg h,if_neg h];omega
theorem ltc_le (k : List UInt8) (l : List Ent) : ltc k l ≤ l.length:=List.length_filter_le _ _
theorem take_ltc {k : List UInt8} : ∀ {l : List Ent},Sorted l → l.take (ltc k l) = l.filter fun e => Op.bytesLess e.k k
 | [],_ => rfl
 | a :: l,h => by
   obtain ⟨h1,h2⟩:=Sorted.cons_iff.1 h
   rw [ltc_cons]
   by_cases ha : Op.bytesLess a.k k = true
   · rw [if_pos ha,List.filter_cons,if_pos ha,Nat.add_comm,List.take_succ_cons,take_ltc h2]
   · have ha' : Op.bytesLess a.k k = false:=by simpa using ha
     rw [if_neg ha,List.filter_cons,if_neg ha,filter_none (lt_none h1 ha')]
     have : ltc k l = 0:=by unfold ltc;rw [filter_none (lt_none h1 ha')];rfl
     rw [this];rfl
theorem drop_ltc {k : List UInt8} : ∀ {l : List Ent},Sorted l → l.drop (ltc k l) = l.filter fun e => !Op.bytesLess e.k k
 | [],_ => rfl
 | a :: l,h => by
   obtain ⟨h1,h2⟩:=Sorted.cons_iff.1 h
   rw [ltc_cons]
   by_cases ha : Op.bytesLess a.k k = true
   · rw [if_pos ha,List.filter_cons,if_neg (by simp [ha]),Nat.add_comm,List.drop_succ_cons,drop_ltc h2]
   · have ha' : Op.bytesLess a.k k = false:=by simpa using ha
     have hn:=lt_none h1 ha'
     have : ltc k l = 0:=by unfold ltc;rw [filter_none hn];rfl
     rw [if_neg ha,this,List.drop_zero,filter_all]
     intro x hx
     rcases List.mem_cons.1 hx with rfl | hx
     · simp [ha']
     · simp [hn x hx]
theorem ltc_below {k : List UInt8} {l : List Ent} (h : Sorted l) {i : Nat} {e : Ent} (hi : i < ltc k l) (he : l[i]? = some e) : Op.bytesLess e.k k = true:=by
 have : e ∈ l.take (ltc k l):=List.mem_of_getElem? (i:=i) (by rw [List.getElem?_take,if_pos hi];exact he)
 rw [take_ltc h] at this
 exact (List.mem_filter.1 this).2
theorem ltc_above {k : List UInt8} {l : List Ent} (h : Sorted l) {i : Nat} {e : Ent} (hi : ltc k l ≤ i) (he : l[i]? = some e) : Op.bytesLess e.k k = false:=by
 have : e ∈ l.drop (ltc k l):=List.mem_of_getElem? (i:=i - ltc k l) (by rw [List.getElem?_drop];rw [show ltc k l + (i - ltc k l) = i by omega];exact he)
 rw [drop_ltc h] at this
 simpa using (List.mem_filter.1 this).2
theorem has_iff (k : List UInt8) (l : List Ent) : has k l = true ↔ ∃ e ∈ l,e.k = k:=by
 unfold has
 simp [List.any_eq_true]
theorem has_false (k : List UInt8) (l : List Ent) : has k l = false ↔ ∀ e ∈ l,e.k ≠ k:=by
 unfold has
 simp [List.any_eq_false]
theorem nless_split {k x : List UInt8} : (!Op.bytesLess x k) = (x == k || Op.bytesLess k x):=by
 by_cases e : x = k
 · subst e;simp [less_irrefl]
 · rw [less_tri k x (fun h => e h.symm)]
   simp [e]
theorem has_at {k : List UInt8} : ∀ {l : List Ent},Sorted l → has k l = true → ∃ e,l[ltc k l]? = some e ∧ e.k = k ∧ l.filter (fun x => !Op.bytesLess x.k k) = e :: l.filter (fun x => Op.bytesLess k x.k)
 | [],_,h => by cases h
 | a :: l,hs,h => by
   obtain ⟨h1,h2⟩:=Sorted.cons_iff.1 hs
   by_cases e : a.k = k
   · refine ⟨a,?_,e,?_⟩
     · rw [ltc_cons,if_neg (by rw [e,less_irrefl];simp)]
       have : ltc k l = 0:=by unfold ltc;rw [filter_none (lt_none h1 (by rw [e];exact less_irrefl k))];rfl
       rw [this];rfl
     · rw [List.filter_cons,if_pos (by rw [e,less_irrefl];rfl),List.filter_cons,if_neg (by rw [e,less_irrefl];simp)]
       congr 1
       rw [filter_all fun x hx => by rw [lt_none h1 (by rw [e];exact less_irrefl k) x hx];rfl,filter_all fun x hx => by rw [← e];exact h1 x hx]
   · have h' : has k l = true:=by
      obtain ⟨x,hx,hk⟩:=(has_iff k _).1 h
      rcases List.mem_cons.1 hx with rfl | hx
      · exact absurd hk e
      · exact (has_iff k l).2 ⟨x,hx,hk⟩
     obtain ⟨x,hx,hk⟩:=(has_iff k l).1 h'
     have ha : Op.bytesLess a.k k = true:=hk ▸ h1 x hx
     obtain ⟨e',q1,q2,q3⟩:=has_at h2 h'
     refine ⟨e',?_,q2,?_⟩
     · rw [ltc_cons,if_pos ha,Nat.add_comm,List.getElem?_cons_succ];exact q1
     · rw [List.filter_cons,if_neg (by rw [ha];simp),List.filter_cons,if_neg (by rw [less_asymm ha];simp),q3]
theorem has_not {k : List UInt8} {l : List Ent} (h : has k l = false) : l.filter (fun x => !Op.bytesLess x.k k) = l.filter (fun x => Op.bytesLess k x.k):=by
 refine List.filter_congr fun x hx => ?_
 have:=(has_false k l).1 h x hx
 rw [nless_split]
 simp [this]
theorem ltc_has_lt {k : List UInt8} {l : List Ent} (hs : Sorted l) (h : has k l = true) : ltc k l < l.length:=by
 obtain ⟨e,he,_⟩:=has_at hs h
 exact (List.getElem?_eq_some_iff.1 he).1
theorem has_ltc {k : List UInt8} {l : List Ent} (hs : Sorted l) : has k l = match l[ltc k l]? with | some e => e.k == k | none => false:=by
 cases h : has k l with
 | true =>
   obtain ⟨e,he,hk,_⟩:=has_at hs h
   rw [he];simp [hk]
 | false =>
   cases he : l[ltc k l]? with
   | none => rfl
   | some e =>
     have:=(has_false k l).1 h e (List.mem_of_getElem? he)
     simp [this]
theorem set_insL {e : Ent} {l : List Ent} (hs : Sorted l) (h : has e.k l = true) : l.set (ltc e.k l) e = insL e l:=by
 obtain ⟨x,hx,hk,hd⟩:=has_at hs h
 have hlt:=ltc_has_lt hs h
 rw [List.set_eq_take_append_cons_drop,if_pos hlt,take_ltc hs]
 have : l.drop (ltc e.k l + 1) = l.filter (fun x => Op.bytesLess e.k x.k):=by
  rw [← List.tail_drop,drop_ltc hs,hd];rfl
 rw [this];rfl
theorem ins_insL {e : Ent} {l : List Ent} (hs : Sorted l) (h : has e.k l = false) : l.take (ltc e.k l) ++ [e] ++ l.drop (ltc e.k l) = insL e l:=by
 rw [take_ltc hs,drop_ltc hs,has_not h]
 simp [insL]
theorem split_len (k : List UInt8) (l : List Ent) : (l.filter fun x => Op.bytesLess x.k k).length + (l.filter fun x => x.k == k).length + (l.filter fun x => Op.bytesLess k x.k).length = l.length:=by
 induction l with
 | nil => rfl
 | cons a l ih =>
   by_cases e : a.k = k
   · rw [List.filter_cons,if_neg (by rw [e,less_irrefl];simp),List.filter_cons,if_pos (by simp [e]),List.filter_cons,if_neg (by rw [e,less_irrefl];simp)]
     simp only [List.length_cons];omega
   · cases h : Op.bytesLess a.k k with
     | true =>
       rw [List.filter_cons,if_pos h,List.filter_cons,if_neg (by simp [e]),List.filter_cons,if_neg (by rw [less_asymm h];simp)]
       simp only [List.length_cons];omega
     | false =>
       have : Op.bytesLess k a.k = true:=by rw [less_tri k a.k (fun x => e x.symm),h];rfl
       rw [List.filter_cons,if_neg (by rw [h];simp),List.filter_cons,if_neg (by simp [e]),List.filter_cons,if_pos this]
       simp only [List.length_cons];omega
theorem eq_len {k : List UInt8} : ∀ {l : List Ent},Sorted l → (l.filter fun x => x.k == k).length = if has k l then 1 else 0
 | [],_ => rfl
 | a :: l,hs => by
   obtain ⟨h1,h2⟩:=Sorted.cons_iff.1 hs
   by_cases e : a.k = k
   · rw [List.filter_cons,if_pos (by simp [e]),filter_none fun x hx => by
      have:=less_ne (h1 x hx);simp [← e,Ne.symm this]]
     have : has k (a :: l) = true:=(has_iff k _).2 ⟨a,by simp,e⟩
     rw [this];rfl
   · rw [List.filter_cons,if_neg (by simp [e]),eq_len h2]
     have : has k (a :: l) = has k l:=by simp [has,e]
     rw [this]
theorem insL_length {e : Ent} {l : List Ent} (hs : Sorted l) : (insL e l).length = l.length + if has e.k l then 0 else 1:=by
 have h1:=split_len e.k l
 rw [eq_len hs] at h1
 simp only [insL,List.length_append,List.length_cons]
 cases h : has e.k l with
 | true => rw [h] at h1;simp at h1 ⊢;omega
 | false => rw [h] at h1;simp at h1 ⊢;omega
theorem insL_append (e : Ent) {a b c : List Ent} (ha : ∀ x ∈ a,Op.bytesLess x.k e.k = true) (hc : ∀ x ∈ c,Op.bytesLess e.k x.k = true) : insL e (a ++ b ++ c) = a ++ insL e b ++ c:=by
 unfold insL
 simp only [List.filter_append]
 rw [filter_all ha,filter_all hc,filter_none (p:=fun x => Op.bytesLess x.k e.k) fun x hx => less_asymm (hc x hx),filter_none (p:=fun x => Op.bytesLess e.k x.k) fun x hx => less_asymm (ha x hx)]
 simp
theorem insL_sorted {e : Ent} {l : List Ent} (hs : Sorted l) : Sorted (insL e l):=by
 unfold insL
 rw [Sorted.append_iff,Sorted.cons_iff]
 refine ⟨hs.filter _,⟨fun x hx => (List.mem_filter.1 hx).2,hs.filter _⟩,fun x hx y hy => ?_⟩
 have h1:=(List.mem_filter.1 hx).2
 rcases List.mem_cons.1 hy with rfl | hy
 · exact h1
 · exact less_trans h1 (List.mem_filter.1 hy).2
theorem mem_insL {e x : Ent} {l : List Ent} : x ∈ insL e l ↔ x = e ∨ (x ∈ l ∧ x.k ≠ e.k):=by
 unfold insL
 simp only [List.mem_append,List.mem_cons,List.mem_filter]
 constructor
 · rintro (⟨h1,h2⟩ | h | ⟨h1,h2⟩)
   · exact .inr ⟨h1,less_ne h2⟩
   · exact .inl h
   · exact .inr ⟨h1,(less_ne h2).symm⟩
 · rintro (h | ⟨h1,h2⟩)
   · exact .inr (.inl h)
   · cases hb : Op.bytesLess x.k e.k with
     | true => exact .inl ⟨h1,rfl⟩
     | false => exact .inr (.inr ⟨h1,by rw [less_tri e.k x.k (Ne.symm h2),hb];rfl⟩)
theorem erase_delL {k : List UInt8} {l : List Ent} (hs : Sorted l) (h : has k l = true) : l.take (ltc k l) ++ l.drop (ltc k l + 1) = delL k l:=by
 obtain ⟨x,hx,hk,hd⟩:=has_at hs h
 have : l.drop (ltc k l + 1) = l.filter (fun x => Op.bytesLess k x.k):=by
  rw [← List.tail_drop,drop_ltc hs,hd];rfl
 rw [this,take_ltc hs]
 clear this hd hx hk x h
 induction l with
 | nil => rfl
 | cons a l ih =>
   obtain ⟨h1,h2⟩:=Sorted.cons_iff.1 hs
   unfold delL at ih ⊢
   by_cases e : a.k = k
   · rw [List.filter_cons,if_neg (by rw [e,less_irrefl];simp),List.filter_cons,if_neg (by rw [e,less_irrefl];simp),List.filter_cons,if_neg (by simp [e])]
     exact ih h2
   · cases hb : Op.bytesLess a.k k with
     | true =>
       rw [List.filter_cons,if_pos hb,List.filter_cons,if_neg (by rw [less_asymm hb];simp),List.filter_cons,if_pos (by simp [e]),List.cons_append,ih h2]
     | false =>
       have : Op.bytesLess k a.k = true:=by rw [less_tri k a.k (fun x => e x.symm),hb];rfl
       rw [List.filter_cons,if_neg (by rw [hb];simp),List.filter_cons,if_pos this,List.filter_cons,if_pos (by simp [e]),filter_none (lt_none h1 hb),List.nil_append]
       congr 1
       rw [filter_all fun x hx => less_trans this (h1 x hx),filter_all fun x hx => by have:=less_ne (less_trans this (h1 x hx));simp [this.symm]]
theorem delL_append {k : List UInt8} {a b c : List Ent} (ha : ∀ x ∈ a,x.k ≠ k) (hc : ∀ x ∈ c,x.k ≠ k) : delL k (a ++ b ++ c) = a ++ delL k b ++ c:=by
 unfold delL
 simp only [List.filter_append]
 rw [filter_all fun x hx => by simp [ha x hx],filter_all (l:=c) fun x hx => by simp [hc x hx]]
theorem delL_length {k : List UInt8} {l : List Ent} (hs : Sorted l) : (delL k l).length + (if has k l then 1 else 0) = l.length:=by
 rw [← eq_len hs,Nat.add_comm]
 unfold delL
 clear hs
 induction l with
 | nil => rfl
 | cons a l ih =>
   by_cases e : a.k = k
   · rw [List.filter_cons,if_pos (by simp [e]),List.filter_cons,if_neg (by simp [e])];simp only [List.length_cons];omega
   · rw [List.filter_cons,if_neg (by simp [e]),List.filter_cons,if_pos (by simp [e])];simp only [List.length_cons];omega
theorem delL_none {k : List UInt8} {l : List Ent} (h : has k l = false) : delL k l = l:=filter_all fun x hx => by have:=(has_false k l).1 h x hx;simp [this]
theorem delL_sorted {k : List UInt8} {l : List Ent} (hs : Sorted l) : Sorted (delL k l):=hs.filter _
theorem mem_delL {k : List UInt8} {x : Ent} {l : List Ent} : x ∈ delL k l ↔ x ∈ l ∧ x.k ≠ k:=by
 unfold delL;simp [List.mem_filter]
theorem getL_some {k : List UInt8} {l : List Ent} {e : Ent} (hs : Sorted l) : getL k l = some e ↔ e ∈ l ∧ e.k = k:=by
 unfold getL
 constructor
 · intro h
   exact ⟨List.mem_of_find?_eq_some h,by simpa using List.find?_some h⟩
 · rintro ⟨h1,h2⟩
   cases h : l.find? fun e => e.k == k with
   | none => have:=List.find?_eq_none.1 h e h1;simp [h2] at this
   | some x =>
     have hx:=List.mem_of_find?_eq_some h
     have hk : x.k = k:=by simpa using List.find?_some h
     congr 1
     obtain ⟨i,hi,rfl⟩:=List.getElem_of_mem h1
     obtain ⟨j,hj,rfl⟩:=List.getElem_of_mem hx
     have hs':=List.pairwise_iff_getElem.1 hs
     rcases Nat.lt_trichotomy i j with g | g | g
     · have:=hs' i j hi hj g;rw [h2,hk,less_irrefl] at this;cases this
     · subst g;rfl
     · have:=hs' j i hj hi g;rw [h2,hk,less_irrefl] at this;cases this
theorem getL_has (k : List UInt8) (l : List Ent) : (getL k l).isSome = has k l:=by
 unfold getL has
 induction l with
 | nil => rfl
 | cons a l ih =>
   by_cases e : a.k == k
   · simp [List.find?_cons,e]
   · rw [List.find?_cons,List.any_cons]
     simp only [Bool.not_eq_true] at e
     simp only [e,Bool.false_or]
     exact ih
theorem getL_at {k : List UInt8} {l : List Ent} (hs : Sorted l) : getL k l = if has k l then l[ltc k l]? else none:=by
 cases h : has k l with
 | true =>
   obtain ⟨e,he,hk,_⟩:=has_at hs h
   rw [if_pos rfl,he]
   exact (getL_some hs).2 ⟨List.mem_of_getElem? he,hk⟩
 | false =>
   have:=getL_has k l
   rw [h] at this
   simpa using this
theorem getL_append {k : List UInt8} {a b c : List Ent} (ha : ∀ x ∈ a,x.k ≠ k) (hc : ∀ x ∈ c,x.k ≠ k) : getL k (a ++ b ++ c) = getL k b:=by
 unfold getL
 rw [List.find?_append,List.find?_append]
 have h1 : List.find? (fun e => e.k == k) a = none:=List.find?_eq_none.2 fun x hx => by simp [ha x hx]
 have h2 : List.find? (fun e => e.k == k) c = none:=List.find?_eq_none.2 fun x hx => by simp [hc x hx]
 rw [h1,h2]
 simp
theorem has_append {k : List UInt8} {a b c : List Ent} (ha : ∀ x ∈ a,x.k ≠ k) (hc : ∀ x ∈ c,x.k ≠ k) : has k (a ++ b ++ c) = has k b:=by
 rw [← getL_has,← getL_has,getL_append ha hc]
def cutL (s : Sp) (l : List Ent) : List Ent:=(l.take (if s.e then ltc s.t l else l.length)).drop (ltc s.f l)
theorem rangeL_flat (s : Sp) : ∀ ls : List (List Ent),rangeL s ls.flatten = ls.flatMap (rangeL s)
 | [] => rfl
 | l :: r => by rw [List.flatten_cons,List.flatMap_cons,← rangeL_flat s r];exact List.filter_append ..
end Go.T14

set_option linter.unusedSimpArgs false
set_option linter.unusedVariables false
namespace Go.T14
open Go Go.Ev
theorem okp_okr : ∀ {d : Nat} {t : Tr d},Okp d t → Okr d t
 | 0,_,h => h.2
 | _ + 1,_,h => h
theorem okp_okm : ∀ {d : Nat} {t : Tr d},Okp d t → Okm d t
 | 0,_,h => ⟨by have:=h.1;omega,h.2⟩
 | _ + 1,_,h => ⟨by have:=h.1;omega,h.2.1,h.2.2⟩
theorem okm_okp : ∀ {d : Nat} {t : Tr d},Okm d t → 2 ≤ sz d t → Okp d t
 | 0,_,h,h2 => ⟨h2,h.2⟩
 | _ + 1,_,h,h2 => ⟨h2,h.2.1,h.2.2⟩
theorem okm_ne : ∀ {d : Nat} {t : Tr d},Okm d t → flat d t ≠ []
 | 0,es,h => fun e => by
   have h1:=h.1
   simp only [flat] at e
   rw [show (es : List Ent) = [] from e] at h1
   simp at h1
 | d + 1,bs,h => fun e => by
   have h1:=h.1
   cases bs with
   | nil => simp at h1
   | cons b r =>
     have:=okm_ne (okp_okm (h.2.2 b (by simp)))
     simp only [flat,List.flatMap_cons,List.append_eq_nil_iff] at e
     exact this e.1
theorem okp_ne {d : Nat} {t : Tr d} (h : Okp d t) : flat d t ≠ []:=okm_ne (okp_okm h)
def lst (d : Nat) (t : Tr d) : List UInt8:=match flat d t with
 | e :: _ => e.k
 | [] => []
def wayL (k : List UInt8) : List (List UInt8) → Nat
 | [] => 0
 | x :: r => if Op.bytesLess k x = true then 0 else wayL k r + 1
def way (d : Nat) (bs : List (Tr d)) (k : List UInt8) : Nat:=wayL k (bs.tail.map (lst d))
theorem lst_mem {d : Nat} {t : Tr d} (h : flat d t ≠ []) : ∃ e r,flat d t = e :: r ∧ lst d t = e.k:=by
 unfold lst
 cases hf : flat d t with
 | nil => exact absurd hf h
 | cons e r => exact ⟨e,r,rfl,rfl⟩
theorem way_split (d : Nat) (k : List UInt8) : ∀ (bs : List (Tr d)),bs ≠ [] → (∀ b ∈ bs,flat d b ≠ []) → Sorted (bs.flatMap (flat d)) →
 ∃ A b C,bs = A ++ b :: C ∧ A.length = way d bs k ∧ (∀ e ∈ A.flatMap (flat d),Op.bytesLess e.k k = true) ∧ (∀ e ∈ C.flatMap (flat d),Op.bytesLess k e.k = true)
 | [],h,_,_ => absurd rfl h
 | [b],_,_,_ => ⟨[],b,[],rfl,rfl,by simp,by simp⟩
 | b :: c :: r,_,hn,hs => by
   obtain ⟨e0,r0,hc,hl⟩:=lst_mem (hn c (by simp))
   rw [List.flatMap_cons,Sorted.append_iff] at hs
   obtain ⟨s1,s2,s3⟩:=hs
   have hway : way d (b :: c :: r) k = if Op.bytesLess k e0.k = true then 0 else way d (c :: r) k + 1:=by
    show wayL k (lst d c :: r.map (lst d)) = _
    rw [wayL,hl];rfl
   by_cases hk : Op.bytesLess k e0.k = true
   · refine ⟨[],b,c :: r,rfl,by rw [hway,if_pos hk];rfl,by simp,fun e he => ?_⟩
     rw [List.flatMap_cons,hc,List.cons_append] at he
     rw [List.flatMap_cons,hc,List.cons_append,Sorted.cons_iff] at s2
     rcases List.mem_cons.1 he with rfl | he
     · exact hk
     · exact less_trans hk (s2.1 e he)
   · have hk' : Op.bytesLess k e0.k = false:=by simpa using hk
     obtain ⟨A,b',C,h1,h2,h3,h4⟩:=way_split d k (c :: r) (by simp) (fun x hx => hn x (by simp [List.mem_cons.1 hx])) s2
     refine ⟨b :: A,b',C,by rw [h1];rfl,by rw [hway,if_neg hk,List.length_cons,h2],fun e he => ?_,h4⟩
     rw [List.flatMap_cons] at he
     rcases List.mem_append.1 he with he | he
     · exact less_nless (s3 e he e0 (by rw [List.flatMap_cons,hc];simp)) hk'
     · exact h3 e he
def halves {α : Type} (l : List α) : List (List α):=if l.length ≤ 4 then [l] else [l.take ((l.length + 1) / 2),l.drop ((l.length + 1) / 2)]
theorem halves_flat {α β : Type} (f : α → List β) (l : List α) : (halves l).flatMap (fun x => x.flatMap f) = l.flatMap f:=by
 unfold halves
 split
 · simp
 · rw [List.flatMap_cons,List.flatMap_cons,List.flatMap_nil,List.append_nil,← List.flatMap_append,List.take_append_drop]
theorem halves_flatten {α : Type} (l : List α) : (halves l).flatten = l:=by
 unfold halves
 split
 · simp
 · simp
theorem halves_ok {α : Type} {l : List α} (h : l.length ≤ 5) : (l.length ≤ 4 ∧ halves l = [l]) ∨ ∃ a b,halves l = [a,b] ∧ l = a ++ b ∧ a.length = 3 ∧ b.length = 2:=by
 unfold halves
 by_cases hl : l.length ≤ 4
 · exact .inl ⟨hl,if_pos hl⟩
 · have e : l.length = 5:=by omega
   refine .inr ⟨l.take 3,l.drop 3,by rw [if_neg hl,e],(List.take_append_drop 3 l).symm,by rw [List.length_take,e];rfl,by rw [List.length_drop,e]⟩
def put : (d : Nat) → Tr d → Ent → List (Tr d)
 | 0,es,e => halves (insL e es)
 | d + 1,bs,e => halves (List.take (way d bs e.k) bs ++ (match (bs : List (Tr d))[way d bs e.k]? with | some b => put d b e | none => []) ++ List.drop (way d bs e.k + 1) bs)
theorem at_split {α : Type} {A C : List α} {b : α} : (A ++ b :: C)[A.length]? = some b ∧ (A ++ b :: C).take A.length = A ∧ (A ++ b :: C).drop (A.length + 1) = C:=by
 refine ⟨by rw [List.getElem?_append_right (Nat.le_refl _),Nat.sub_self];rfl,List.take_left,?_⟩
 rw [← List.drop_drop,List.drop_left];rfl
theorem flat_succ (d : Nat) (bs : List (Tr d)) : flat (d + 1) bs = bs.flatMap (flat d):=rfl
theorem kids {d : Nat} {bs : Tr (d + 1)} (h : Okr (d + 1) bs) : (bs : List (Tr d)) ≠ [] ∧ ∀ b ∈ (bs : List (Tr d)),flat d b ≠ [] :=
 ⟨fun e => by have:=h.1;rw [e] at this;simp at this,fun b hb => okp_ne (h.2.2 b hb)⟩
theorem put_flat : ∀ (d : Nat) (t : Tr d) (e : Ent),Okr d t → Sorted (flat d t) → (put d t e).flatMap (flat d) = insL e (flat d t)
 | 0,es,e,_,_ => by
   show (halves (insL e es)).flatMap (fun x => x) = insL e es
   rw [List.flatMap_id',halves_flatten]
 | d + 1,bs,e,hr,hs => by
   obtain ⟨hne,hn⟩:=kids hr
   obtain ⟨A,b,C,rfl,h2,h3,h4⟩:=way_split d e.k bs hne hn hs
   have hb : Okp d b:=hr.2.2 b (by simp)
   obtain ⟨a1,a2,a3⟩:=at_split (A:=A) (b:=b) (C:=C)
   have hs' : Sorted (flat d b):=by
    rw [flat_succ,List.flatMap_append,Sorted.append_iff,List.flatMap_cons,Sorted.append_iff] at hs
    exact hs.2.1.1
   show (halves _).flatMap (fun x => List.flatMap (flat d) x) = _
   rw [halves_flat,← h2,a1,a2,a3]
   simp only []
   rw [List.flatMap_append,List.flatMap_append,put_flat d b e (okp_okr hb) hs',flat_succ,List.flatMap_append,List.flatMap_cons,← List.append_assoc,insL_append e h3 h4]
theorem put_ok : ∀ (d : Nat) (t : Tr d) (e : Ent),Okr d t → Sorted (flat d t) →
 (∃ x,put d t e = [x] ∧ Okr d x ∧ (Okp d t → Okp d x)) ∨ ∃ x y,put d t e = [x,y] ∧ Okp d x ∧ Okp d y
 | 0,es,e,hr,hs => by
   have hl:=insL_length (e:=e) hs
   have hr' : (es : List Ent).length ≤ 4:=hr
   have h5 : (insL e es).length ≤ 5:=by
    have : (if has e.k es then 0 else 1) ≤ 1:=by split <;> omega
    change (insL e es).length = (es : List Ent).length + _ at hl
    have e0 : flat 0 es = es:=rfl
    rw [e0] at hl
    omega
   rcases halves_ok h5 with ⟨h4,he⟩ | ⟨a,b,he,hab,ha,hb⟩
   · refine .inl ⟨_,he,h4,fun hp => ⟨?_,h4⟩⟩
     have:=hp.1
     change (insL e es).length = (es : List Ent).length + _ at hl
     show 2 ≤ (insL e es).length
     omega
   · exact .inr ⟨a,b,he,⟨by show 2 ≤ a.length;omega,by show a.length ≤ 4;omega⟩,⟨by show 2 ≤ b.length;omega,by show b.length ≤ 4;omega⟩⟩
 | d + 1,bs,e,hr,hs => by
   obtain ⟨hne,hn⟩:=kids hr
   obtain ⟨A,b,C,rfl,h2,h3,h4⟩:=way_split d e.k bs hne hn hs
   have hb : Okp d b:=hr.2.2 b (by simp)
   obtain ⟨a1,a2,a3⟩:=at_split (A:=A) (b:=b) (C:=C)
   have hs' : Sorted (flat d b):=by
    rw [flat_succ,List.flatMap_append,Sorted.append_iff,List.flatMap_cons,Sorted.append_iff] at hs
    exact hs.2.1.1
   have hput : put (d + 1) (A ++ b :: C) e = halves (A ++ put d b e ++ C):=by
    show halves _ = _
    rw [← h2,a1,a2,a3]
   have hlen : 2 ≤ (A ++ b :: C).length ∧ (A ++ b :: C).length ≤ 4:=⟨hr.1,hr.2.1⟩
   rw [List.length_append,List.length_cons] at hlen
   have hall : ∀ x ∈ A ++ put d b e ++ C,Okp d x:=by
    intro x hx
    rcases List.mem_append.1 hx with hx | hx
    · rcases List.mem_append.1 hx with hx | hx
      · exact hr.2.2 x (by simp [hx])
      · rcases put_ok d b e (okp_okr hb) hs' with ⟨y,hy,_,hp⟩ | ⟨y,z,hy,h1,h2⟩
        · rw [hy] at hx;simp at hx;subst hx;exact hp hb
        · rw [hy] at hx;simp at hx;rcases hx with rfl | rfl <;> assumption
    · exact hr.2.2 x (by simp [hx])
   have hpl : 1 ≤ (put d b e).length ∧ (put d b e).length ≤ 2:=by
    rcases put_ok d b e (okp_okr hb) hs' with ⟨y,hy,_,hp⟩ | ⟨y,z,hy,h1,h2⟩ <;> rw [hy] <;> simp
   have hL : 2 ≤ (A ++ put d b e ++ C).length ∧ (A ++ put d b e ++ C).length ≤ 5:=by
    rw [List.length_append,List.length_append];omega
   rw [hput]
   rcases halves_ok hL.2 with ⟨h4,he⟩ | ⟨x,y,he,hab,ha,hb⟩
   · exact .inl ⟨_,he,⟨hL.1,h4,hall⟩,fun _ => ⟨hL.1,h4,hall⟩⟩
   · rw [hab] at hall
     exact .inr ⟨x,y,he,⟨by show 2 ≤ x.length;omega,by show x.length ≤ 4;omega,fun z hz => hall z (by simp [hz])⟩,⟨by show 2 ≤ y.length;omega,by show y.length ≤ 4;omega,fun z hz => hall z (by simp [hz])⟩⟩
def join : (d : Nat) → Tr d → Tr d → List (Tr d)
 | 0,a,b => halves (List.append (a : List Ent) b)
 | d + 1,a,b => halves (List.append (a : List (Tr d)) b)
def mend (d : Nat) (l : List (Tr d)) (k : Nat) : List (Tr d) :=
 l.take (min k (l.length - 2)) ++ (match l[min k (l.length - 2)]?,l[min k (l.length - 2) + 1]? with | some a,some b => join d a b | _,_ => []) ++ l.drop (min k (l.length - 2) + 2)
def wo : (d : Nat) → Tr d → List UInt8 → Tr d
 | 0,es,k => delL k es
 | d + 1,bs,key => match (bs : List (Tr d))[way d bs key]? with
   | none => bs
   | some b => if sz d (wo d b key) < 2 then mend d (List.set (bs : List (Tr d)) (way d bs key) (wo d b key)) (way d bs key) else List.set (bs : List (Tr d)) (way d bs key) (wo d b key)
def Okw : (d : Nat) → Tr d → Prop
 | 0,es => List.length (es : List Ent) ≤ 4
 | d + 1,bs => 1 ≤ List.length (bs : List (Tr d)) ∧ List.length (bs : List (Tr d)) ≤ 4 ∧ ∀ b ∈ (bs : List (Tr d)),Okp d b
theorem join_flat : ∀ (d : Nat) (a b : Tr d),(join d a b).flatMap (flat d) = flat d a ++ flat d b
 | 0,a,b => by
   show (halves _).flatMap (fun x => x) = _
   rw [List.flatMap_id',halves_flatten];rfl
 | d + 1,a,b => by
   show (halves _).flatMap (fun x => List.flatMap (flat d) x) = _
   rw [halves_flat]
   exact List.flatMap_append
theorem join_ok : ∀ (d : Nat) (a b : Tr d),Okm d a → Okm d b → 3 ≤ sz d a + sz d b → sz d a + sz d b ≤ 5 → (∀ z ∈ join d a b,Okp d z) ∧ 1 ≤ (join d a b).length ∧ (join d a b).length ≤ 2
 | 0,a,b,ha,hb,h1,h2 => by
   have hl : (List.append (a : List Ent) b).length = sz 0 a + sz 0 b:=List.length_append
   rcases halves_ok (l:=List.append (a : List Ent) b) (by omega) with ⟨h4,he⟩ | ⟨x,y,he,hab,hx,hy⟩
   · rw [show join 0 a b = _ from he]
     refine ⟨fun z hz => ?_,by simp,by simp⟩
     rw [List.mem_singleton.1 hz]
     exact ⟨by show 2 ≤ List.length (List.append (a : List Ent) b);omega,h4⟩
   · rw [show join 0 a b = _ from he]
     refine ⟨fun z hz => ?_,by simp,by simp⟩
     rcases List.mem_cons.1 hz with rfl | hz
     · exact ⟨by show 2 ≤ List.length _;omega,by show List.length _ ≤ 4;omega⟩
     · rw [List.mem_singleton.1 hz]
       exact ⟨by show 2 ≤ List.length _;omega,by show List.length _ ≤ 4;omega⟩
 | d + 1,a,b,ha,hb,h1,h2 => by
   have hl : (List.append (a : List (Tr d)) b).length = sz (d + 1) a + sz (d + 1) b:=List.length_append
   have hall : ∀ z ∈ (show List (Tr d) from List.append (a : List (Tr d)) b),Okp d z:=fun z hz => by
    rcases List.mem_append.1 hz with hz | hz
    · exact ha.2.2 z hz
    · exact hb.2.2 z hz
   rcases halves_ok (l:=List.append (a : List (Tr d)) b) (by omega) with ⟨h4,he⟩ | ⟨x,y,he,hab,hx,hy⟩
   · rw [show join (d + 1) a b = _ from he]
     refine ⟨fun z hz => ?_,by simp,by simp⟩
     rw [List.mem_singleton.1 hz]
     exact ⟨by show 2 ≤ List.length (List.append (a : List (Tr d)) b);omega,h4,hall⟩
   · rw [show join (d + 1) a b = _ from he]
     have hall' : ∀ z ∈ x ++ y,Okp d z:=hab ▸ hall
     refine ⟨fun z hz => ?_,by simp,by simp⟩
     rcases List.mem_cons.1 hz with rfl | hz
     · exact ⟨by show 2 ≤ List.length _;omega,by show List.length _ ≤ 4;omega,fun w hw => hall' w (List.mem_append_left _ hw)⟩
     · rw [List.mem_singleton.1 hz]
       exact ⟨by show 2 ≤ List.length _;omega,by show List.length _ ≤ 4;omega,fun w hw => hall' w (List.mem_append_right _ hw)⟩
theorem pair_split {α : Type} : ∀ (l : List α) (j : Nat),j + 2 ≤ l.length → ∃ a b,l[j]? = some a ∧ l[j + 1]? = some b ∧ l = l.take j ++ a :: b :: l.drop (j + 2):=fun l j h => by
 refine ⟨l[j],l[j + 1],List.getElem?_eq_getElem (by omega),List.getElem?_eq_getElem (by omega),?_⟩
 rw [← List.drop_eq_getElem_cons (i:=j + 1) (by omega),← List.drop_eq_getElem_cons (i:=j) (by omega),List.take_append_drop]
theorem mend_flat {d : Nat} {l : List (Tr d)} {k : Nat} (h : 2 ≤ l.length) : (mend d l k).flatMap (flat d) = l.flatMap (flat d):=by
 obtain ⟨a,b,h1,h2,h3⟩:=pair_split l (min k (l.length - 2)) (by omega)
 unfold mend
 rw [h1,h2]
 simp only []
 rw [List.flatMap_append,List.flatMap_append,join_flat]
 conv => rhs;rw [h3]
 simp [List.flatMap_append,List.append_assoc]
theorem sz_le : ∀ {d : Nat} {t : Tr d},Okm d t → 1 ≤ sz d t ∧ sz d t ≤ 4
 | 0,_,h => h
 | _ + 1,_,h => ⟨h.1,h.2.1⟩
theorem sz_ge : ∀ {d : Nat} {t : Tr d},Okp d t → 2 ≤ sz d t
 | 0,_,h => h.1
 | _ + 1,_,h => h.1
theorem mend_ok {d : Nat} {A C : List (Tr d)} {c : Tr d} (hA : ∀ x ∈ A,Okp d x) (hC : ∀ x ∈ C,Okp d x) (hc : Okm d c) (h1 : sz d c < 2) (hl : 2 ≤ (A ++ c :: C).length) (hl4 : (A ++ c :: C).length ≤ 4) :
 (∀ z ∈ mend d (A ++ c :: C) A.length,Okp d z) ∧ 1 ≤ (mend d (A ++ c :: C) A.length).length ∧ (mend d (A ++ c :: C) A.length).length ≤ 4:=by
 have hlen : (A ++ c :: C).length = A.length + 1 + C.length:=by rw [List.length_append,List.length_cons];omega
 have key : ∀ (P Q : List (Tr d)) (a b : Tr d),A ++ c :: C = P ++ a :: b :: Q → P.length = min A.length ((A ++ c :: C).length - 2) → (∀ z ∈ P,Okp d z) → (∀ z ∈ Q,Okp d z) → Okm d a → Okm d b → 3 ≤ sz d a + sz d b → sz d a + sz d b ≤ 5 →
  (∀ z ∈ mend d (A ++ c :: C) A.length,Okp d z) ∧ 1 ≤ (mend d (A ++ c :: C) A.length).length ∧ (mend d (A ++ c :: C) A.length).length ≤ 4:=by
  intro P Q a b he hP hp hq ha hb q1 q2
  obtain ⟨j1,j2,j3⟩:=join_ok d a b ha hb q1 q2
  have hm : mend d (A ++ c :: C) A.length = P ++ join d a b ++ Q:=by
   unfold mend
   rw [← hP,he]
   have e1 : (P ++ a :: b :: Q)[P.length]? = some a:=at_split.1
   have e2 : (P ++ a :: b :: Q)[P.length + 1]? = some b:=by rw [List.getElem?_append_right (by omega),Nat.add_sub_cancel_left];rfl
   have e3 : (P ++ a :: b :: Q).drop (P.length + 2) = Q:=by rw [← List.drop_drop,List.drop_left];rfl
   rw [e1,e2,e3,List.take_left]
  rw [hm]
  have hl2 : (A ++ c :: C).length = P.length + 2 + Q.length:=by rw [he,List.length_append];simp;omega
  refine ⟨fun z hz => ?_,by simp only [List.length_append];omega,by simp only [List.length_append];omega⟩
  rcases List.mem_append.1 hz with hz | hz
  · rcases List.mem_append.1 hz with hz | hz
    · exact hp z hz
    · exact j1 z hz
  · exact hq z hz
 cases C with
 | cons y Q =>
   have hy:=hC y (by simp)
   have s1:=sz_ge hy
   have s2:=(sz_le (okp_okm hy)).2
   have s3:=(sz_le hc).1
   exact key A Q c y rfl (by simp only [List.length_cons] at hlen;omega) hA (fun z hz => hC z (by simp [hz])) hc (okp_okm hy) (by omega) (by omega)
 | nil =>
   rcases List.eq_nil_or_concat A with rfl | ⟨P,x,rfl⟩
   · simp at hl
   · have hx:=hA x (by simp)
     have s1:=sz_ge hx
     have s2:=(sz_le (okp_okm hx)).2
     have s3:=(sz_le hc).1
     exact key P [] x c (by simp) (by simp) (fun z hz => hA z (by simp [hz])) (by simp) (okp_okm hx) hc (by omega) (by omega)
theorem ne_of_lt {k : List UInt8} {l : List Ent} (h : ∀ e ∈ l,Op.bytesLess e.k k = true) : ∀ e ∈ l,e.k ≠ k:=fun e he => less_ne (h e he)
theorem ne_of_gt {k : List UInt8} {l : List Ent} (h : ∀ e ∈ l,Op.bytesLess k e.k = true) : ∀ e ∈ l,e.k ≠ k:=fun e he => (less_ne (h e he)).symm
theorem set_split {α : Type} {A C : List α} {b c : α} : (A ++ b :: C).set A.length c = A ++ c :: C:=by
 rw [List.set_append_right _ _ (Nat.le_refl _),Nat.sub_self];rfl
theorem way_at {d : Nat} {bs : Tr (d + 1)} (k : List UInt8) (hr : Okr (d + 1) bs) (hs : Sorted (flat (d + 1) bs)) : ∃ A b C,(bs : List (Tr d)) = A ++ b :: C ∧ A.length = way d bs k ∧ (∀ e ∈ A.flatMap (flat d),Op.bytesLess e.k k = true) ∧ (∀ e ∈ C.flatMap (flat d),Op.bytesLess k e.k = true) ∧
 Okp d b ∧ Sorted (flat d b) ∧ (∀ x ∈ A,Okp d x) ∧ (∀ x ∈ C,Okp d x) ∧ flat (d + 1) bs = A.flatMap (flat d) ++ flat d b ++ C.flatMap (flat d):=by
 obtain ⟨hne,hn⟩:=kids hr
 obtain ⟨A,b,C,rfl,h2,h3,h4⟩:=way_split d k bs hne hn hs
 refine ⟨A,b,C,rfl,h2,h3,h4,hr.2.2 b (by simp),?_,fun x hx => hr.2.2 x (by simp [hx]),fun x hx => hr.2.2 x (by simp [hx]),?_⟩
 · rw [flat_succ,List.flatMap_append,Sorted.append_iff,List.flatMap_cons,Sorted.append_iff] at hs
   exact hs.2.1.1
 · rw [flat_succ,List.flatMap_append,List.flatMap_cons,List.append_assoc]
theorem wo_succ {d : Nat} {A C : List (Tr d)} {b : Tr d} {key : List UInt8} (h : A.length = way d (A ++ b :: C) key) : wo (d + 1) (A ++ b :: C) key = if sz d (wo d b key) < 2 then mend d (A ++ wo d b key :: C) A.length else A ++ wo d b key :: C:=by
 have a1 : (A ++ b :: C)[way d (A ++ b :: C) key]? = some b:=by rw [← h];exact at_split.1
 conv => lhs;unfold wo
 simp only [a1]
 rw [← h,set_split]
theorem wo_all : ∀ (d : Nat) (t : Tr d) (key : List UInt8),Okr d t → Sorted (flat d t) → has key (flat d t) = true →
 flat d (wo d t key) = delL key (flat d t) ∧ Okw d (wo d t key) ∧ (Okp d t → Okm d (wo d t key))
 | 0,es,key,hr,hs,hh => by
   have hl:=delL_length (k:=key) hs
   rw [hh] at hl
   have hr' : (es : List Ent).length ≤ 4:=hr
   have hl' : (delL key es).length + 1 = (es : List Ent).length:=hl
   exact ⟨rfl,by show (delL key es).length ≤ 4;omega,fun hp => ⟨by have:=hp.1;show 1 ≤ (delL key es).length;omega,by show (delL key es).length ≤ 4;omega⟩⟩
 | d + 1,bs,key,hr,hs,hh => by
   obtain ⟨A,b,C,rfl,h2,h3,h4,hb,hsb,hA,hC,hf⟩:=way_at key hr hs
   rw [hf,has_append (ne_of_lt h3) (ne_of_gt h4)] at hh
   obtain ⟨w1,w2,w3⟩:=wo_all d b key (okp_okr hb) hsb hh
   have w3:=w3 hb
   have hlen : 2 ≤ (A ++ b :: C).length ∧ (A ++ b :: C).length ≤ 4:=⟨hr.1,hr.2.1⟩
   have hlen' : (A ++ wo d b key :: C).length = (A ++ b :: C).length:=by simp
   rw [wo_succ h2]
   have hflat : (A ++ wo d b key :: C).flatMap (flat d) = delL key (flat (d + 1) (A ++ b :: C)):=by
    rw [hf,delL_append (ne_of_lt h3) (ne_of_gt h4),List.flatMap_append,List.flatMap_cons,w1,List.append_assoc]
   by_cases hz : sz d (wo d b key) < 2
   · rw [if_pos hz]
     obtain ⟨m1,m2,m3⟩:=mend_ok hA hC w3 hz (by omega) (by omega)
     refine ⟨?_,⟨m2,m3,m1⟩,fun _ => ⟨m2,m3,m1⟩⟩
     rw [flat_succ,mend_flat (by omega),hflat]
   · rw [if_neg hz]
     have hc:=okm_okp w3 (by omega)
     have hall : ∀ z ∈ A ++ wo d b key :: C,Okp d z:=fun z hz => by
      rcases List.mem_append.1 hz with hz | hz
      · exact hA z hz
      · rcases List.mem_cons.1 hz with rfl | hz
        · exact hc
        · exact hC z hz
     refine ⟨hflat,⟨by omega,by omega,hall⟩,fun _ => ⟨by omega,by omega,hall⟩⟩
theorem okp_count : ∀ (d : Nat) (t : Tr d),Okp d t → 2 ^ (d + 1) ≤ (flat d t).length ∧ (flat d t).length ≤ 4 ^ (d + 1)
 | 0,es,h => h
 | d + 1,bs,h => by
   have hk : ∀ (l : List (Tr d)),(∀ b ∈ l,Okp d b) → l.length * 2 ^ (d + 1) ≤ (l.flatMap (flat d)).length ∧ (l.flatMap (flat d)).length ≤ l.length * 4 ^ (d + 1):=by
    intro l
    induction l with
    | nil => intro _;simp
    | cons b r ih =>
      intro hb
      obtain ⟨i1,i2⟩:=ih fun x hx => hb x (by simp [hx])
      obtain ⟨b1,b2⟩:=okp_count d b (hb b (by simp))
      rw [List.flatMap_cons,List.length_append,List.length_cons,Nat.succ_mul,Nat.succ_mul]
      omega
   obtain ⟨k1,k2⟩:=hk bs h.2.2
   have h1:=h.1
   have h2:=h.2.1
   have e1 : 2 * 2 ^ (d + 1) ≤ (bs : List (Tr d)).length * 2 ^ (d + 1):=Nat.mul_le_mul_right _ h1
   have e2 : (bs : List (Tr d)).length * 4 ^ (d + 1) ≤ 4 * 4 ^ (d + 1):=Nat.mul_le_mul_right _ h2
   rw [flat_succ,Nat.pow_succ 2 (d + 1),Nat.pow_succ 4 (d + 1)]
   constructor
   · exact Nat.le_trans (by omega) k1
   · exact Nat.le_trans k2 (by omega)
end Go.T14

open Go Go.Ev Go.T14
set_option linter.unusedSimpArgs false
set_option linter.unusedVariables false
namespace Go.Proofs.Ytnieankaikhmnaa
abbrev vI (n : Int) : OV := .flat (.val (.int .i64 n))
abbrev vB (b : Bool) : OV := .flat (.val (.bool b))
abbrev bb (l : List UInt8) : List PV:=l.map pvByte
abbrev vO (l : List UInt8) : OV := .flat (.own none (bb l) [])
abbrev vR (l : List UInt8) : OV := .flat (.val (.sl none (bb l)))
abbrev vE (e : Ent) : OV := .flat (.val (.agg [.sl none (bb e.k),.sl none (bb e.v)]))
abbrev vEs (l : List Ent) : OV := .flat (.val (.sl (some 2) (l.map entV)))
abbrev vEo (l : List Ent) : OV := .flat (.own (some 2) (l.map entV) [])
def pgA (es bs : List PV) (c : Int) : PV := .agg [.sl (some 2) es,.sl none bs,.int .i64 c]
abbrev vPg (es bs : List PV) (c : Int) : OV := .flat (.val (.ptr (some 3) (pgA es bs c)))
theorem needB_true {α : Type} (x : Option α) : needB true x = x:=by
 have h : ∀ b : Bool,b = true → needB b x = x:=by
  intro b hb
  subst hb
  rfl
 exact h true rfl
theorem ifB_t {α : Type} (x y : Option α) : ifB true x y = x:=by
 have h : ∀ b : Bool,b = true → ifB b x y = x:=by
  intro b hb
  subst hb
  rfl
 exact h true rfl
theorem ifB_f {α : Type} (x y : Option α) : ifB false x y = y:=by
 have h : ∀ b : Bool,b = false → ifB b x y = y:=by
  intro b hb
  subst hb
  rfl
 exact h false rfl
theorem callB_some {α β : Type} (a : α) (k : α → Option β) : callB (some a) k = k a:=by
 have h : ∀ r : Option α,r = some a → callB r k = k a:=by
  intro r hr
  subst hr
  rfl
 exact h _ rfl
theorem frzM_nil (r : Option (List OV × List OV)) : frzM [] r = r:=by
 cases r with
 | none => rfl
 | some r => cases r with | mk a b => simp [frzM,frzR]
theorem pcall_step {n : Nat} {f : FuncId} {args : List OV} (h : C.prim f = none) (hf : C.frz f = []) : pcall C (n + 1) f args = callBody C (pcall C n) n f args:=by
 show (match C.prim f with
  | some p => p args
  | none => frzM (C.frz f) (callBody C (pcall C n) n f args)) = _
 rw [h,hf]
 exact frzM_nil _
theorem pcall_frz {n : Nat} {f : FuncId} {args : List OV} {bs : List Bool} (h : C.prim f = none) (hf : C.frz f = bs) : pcall C (n + 1) f args = frzM bs (callBody C (pcall C n) n f args):=by
 show (match C.prim f with
  | some p => p args
  | none => frzM (C.frz f) (callBody C (pcall C n) n f args)) = _
 rw [h,hf]
theorem pcall_prim {n : Nat} {f : FuncId} {args : List OV} {p : List OV → Option (List OV × List OV)} (h : C.prim f = some p) : pcall C (n + 1) f args = p args:=by
 show (match C.prim f with
  | some p => p args
  | none => frzM (C.frz f) (callBody C (pcall C n) n f args)) = _
 rw [h]
theorem fvF (f : FV) : OV.fv (.flat f) = f:=rfl
theorem pvF (v : PV) : FV.pv (.val v) = v:=rfl
theorem xsO (sh : Option Nat) (l sp : List PV) : FV.xs (.own sh l sp) = l:=rfl
theorem toI_int (k : IntKind) (n : Int) : PV.toI (.int k n) = n:=rfl
theorem toB_bool (b : Bool) : PV.toB (.bool b) = b:=rfl
theorem toL_sl (sh : Option Nat) (b : List PV) : PV.toL (.sl sh b) = b:=rfl
theorem deref_ptr (sh : Option Nat) (v : PV) : PV.deref (.ptr sh v) = v:=rfl
theorem cells_agg (l : List PV) : PV.cells (.agg l) = l:=rfl
theorem cells_pg (es bs : List PV) (c : Int) : PV.cells (pgA es bs c) = [.sl (some 2) es,.sl none bs,.int .i64 c]:=rfl
theorem cells_box (k : CK) (l : List FV) : OV.cells (.cont k l) = l:=rfl
theorem isS (v : PV) : isPtrS (.ptr (some 3) v) = true:=rfl
theorem cells_ent (e : Ent) : PV.cells (entV e) = [.sl none (bb e.k),.sl none (bb e.v)]:=rfl
theorem cmp_lt' (a b : List UInt8) : Lib.compareBytes a b < 0 ↔ Op.bytesLess a b = true:=by
 rw [← cmp_lt];simp
theorem cmp_le' (a b : List UInt8) : Lib.compareBytes a b ≤ 0 ↔ Op.bytesLess b a = false:=by
 have:=cmp_le a b
 cases h : Op.bytesLess b a <;> simp_all
theorem hasT63 (es bs : List PV) (c : Int) : hasT Try.prog 63 (pgA es bs c) = true:=by kernel_rfl
theorem hasT55 (x : PV) : hasT Try.prog 55 (.ptr (some 3) x) = true:=by kernel_rfl
theorem hasT33 (a b : List PV) : hasT Try.prog 33 (.agg [.sl none a,.sl none b]) = true:=by kernel_rfl
theorem hasT33e (e : Ent) : hasT Try.prog 33 (entV e) = true:=hasT33 _ _
theorem hasT23 (a : List PV) : hasT Try.prog 23 (.sl none a) = true:=by kernel_rfl
theorem hasT5 (b : UInt8) : hasT Try.prog 5 (pvByte b) = true:=by kernel_rfl
theorem all5 (l : List UInt8) : (bb l).all (hasT Try.prog 5) = true:=by
 simp [List.all_eq_true,hasT5]
theorem row23 (l : List UInt8) : okRow Try.prog 23 (bb l) [] = true:=by
 have h1 : tElem Try.prog 23 = some 5:=by kernel_rfl
 unfold okRow
 rw [h1]
 dsimp only
 split
 · rw [all5];rfl
 · rfl
theorem okO23 (l : List UInt8) : okO Try.prog 23 .o (vO l) = true:=by
 have h1 : elemShape Try.prog 23 = none:=by kernel_rfl
 show (shEq (elemShape Try.prog 23) none && okRow Try.prog 23 (bb l) []) = true
 rw [h1,row23];rfl
theorem ok23 (l : List UInt8) : okOs Try.prog [23] [.o] [vO l] = true:=by
 show (okO Try.prog 23 .o (vO l) && true) = true
 rw [okO23];rfl
theorem ok61 (l : List PV) : okOs Try.prog [61] [.o] [.flat (.own none l [])] = true:=by kernel_rfl
theorem ok27 (l : List PV) : okOs Try.prog [27] [.o] [.flat (.own (some 2) l [])] = true:=by kernel_rfl
theorem ok34 (n : Int) (b : Bool) : okOs Try.prog [3,4] [] [vI n,vB b] = true:=by kernel_rfl
theorem ok3 (n : Int) : okOs Try.prog [3] [] [vI n] = true:=by kernel_rfl
theorem ok4 (b : Bool) : okOs Try.prog [4] [] [vB b] = true:=by kernel_rfl
theorem ok55 (v : PV) : okOs Try.prog [55] [] [.flat (.val (.ptr (some 3) v))] = true:=by kernel_rfl
theorem ok23v (l : List PV) : okOs Try.prog [23] [] [.flat (.val (.sl none l))] = true:=by kernel_rfl
theorem ok334 (a b : List PV) (c : Bool) : okOs Try.prog [33,4] [] [.flat (.val (.agg [.sl none a,.sl none b])),vB c] = true:=by kernel_rfl
theorem bb_isByte (l : List UInt8) : (bb l).all isByte = true:=by
 rw [List.all_eq_true]
 intro x hx
 obtain ⟨b,_,rfl⟩:=List.mem_map.1 hx
 simp only [pvByte,isByte,Bool.and_eq_true,decide_eq_true_eq]
 have:=b.toNat_lt
 omega
theorem bb_u8 (l : List UInt8) : (bb l).map u8Of = l:=bytes_bV l
theorem wrap_nat {i : Nat} (h : i < 9223372036854775808) : IntKind.wrap .i64 (i : Int) = (i : Int):=by rw [IntKind.wrap_i64];omega
theorem wrap_succ {i : Nat} (h : i < 9223372036854775807) : IntKind.wrap .i64 ((i : Int) + 1) = ((i + 1 : Nat) : Int):=by rw [IntKind.wrap_i64];omega
theorem nthP_map {α : Type} (f : α → PV) {l : List α} {i : Nat} {x : α} (h : l[i]? = some x) : nthP (l.map f) i = f x:=by
 unfold nthP
 rw [List.getD_eq_getElem?_getD,List.getElem?_map,h];rfl
theorem s42 (n : Nat) (a b : List UInt8) : pcall C (n + 1) 42 [vR a,vR b] = some ([vI (Lib.compareBytes a b)],[]):=by
 rw [pcall_prim (p:=primBytesCompare) (by rfl)]
 unfold primBytesCompare
 simp only [bb_isByte,Bool.and_self,bb_u8]
theorem s27 (n : Nat) (a : List UInt8) (h : a.length ≤ big) : pcall C (n + 1) 27 [vR a] = some ([vO a],[]):=by
 rw [pcall_prim (p:=primClone) (by rfl)]
 unfold primClone
 have : Nat.ble (bb a).length 140737488355328 = true:=by rw [Nat.ble_eq,List.length_map];unfold big at h;omega
 simp only [bb_isByte,this,Bool.and_self]
theorem s41 (n : Nat) (e : Ent) (k : List UInt8) : pcall C (n + 2) 41 [vE e,vR k] = some ([vI (Lib.compareBytes e.k k)],[]):=by
 rw [pcall_step (by rfl) (by rfl),f41_btree_page_place_1_eq]
 unfold f41_btree_page_place_1
 simp only [s42,callB_some,ok3,needB_true,List.headD_cons,fvF,pvF,toI_int]
theorem half (i j : Nat) (h : i < j) (hj : j ≤ 1000000000) : IntKind.wrap .i64 (Int.fdiv (IntKind.wrap .u64 (IntKind.wrap .i64 ((i : Int) + (j : Int)))) ((2 : Int) ^ (min 1 (IntKind.bits .u64)))) = (((i + j) / 2 : Nat) : Int):=by
 have e1 : IntKind.wrap .i64 ((i : Int) + (j : Int)) = ((i + j : Nat) : Int):=by rw [IntKind.wrap_i64];omega
 have e2 : IntKind.wrap .u64 ((i + j : Nat) : Int) = ((i + j : Nat) : Int):=by rw [IntKind.wrap_u64];omega
 have e3 : min 1 (IntKind.bits .u64) = 1:=by decide
 rw [e1,e2,e3,Int.pow_one,Int.fdiv_eq_ediv_of_nonneg _ (by decide)]
 rw [IntKind.wrap_i64];omega
theorem search (N : Nat) (k : List UInt8) (es : List Ent) (hs : Sorted es) (hl : es.length ≤ 1000000000) : ∀ (m i j : Nat),i ≤ ltc k es → ltc k es ≤ j → j ≤ es.length → j - i < m →
 f40_api_Entry_byte.l0 (pcall C (N + 2)) (N + 2) m (es.map entV) (bb k) (es.length : Int) (i : Int) (j : Int) = some ([vI (ltc k es),vB (has k es)],[])
 | 0,i,j,h1,h2,h3,h4 => by omega
 | m + 1,i,j,h1,h2,h3,h4 => by
   show f40_api_Entry_byte.l0.step _ _ (f40_api_Entry_byte.l0 _ _ m) _ _ _ _ _ = _
   unfold f40_api_Entry_byte.l0.step
   by_cases hij : i < j
   · have c1 : ((i : Int) < (j : Int)):=by omega
     have hh : (i + j) / 2 < es.length:=by omega
     obtain ⟨e,he⟩ : ∃ e,es[(i + j) / 2]? = some e:=⟨_,List.getElem?_eq_getElem hh⟩
     have c2 : (0 : Int) ≤ (((i + j) / 2 : Nat) : Int):=by omega
     have c3 : (((i + j) / 2 : Nat) : Int) < ((es.map entV).length : Int):=by rw [List.length_map];omega
     have w : IntKind.wrap .i64 ((((i + j) / 2 : Nat) : Int) + 1) = (((i + j) / 2 + 1 : Nat) : Int):=wrap_succ (by omega)
     cases hb : Op.bytesLess e.k k with
     | true =>
       have hlt : (i + j) / 2 < ltc k es:=by
        rcases Nat.lt_or_ge ((i + j) / 2) (ltc k es) with h | h
        · exact h
        · rw [ltc_above hs h he] at hb;cases hb
       have c5:=(cmp_lt' e.k k).2 hb
       simp only [half i j hij (by omega),c1,c2,c3,c5,decide_true,ifB_t,needB_true,Int.toNat_natCast,nthP_map entV he,hasT33e,cells_ent,List.headD_cons,List.tail_cons,toL_sl,s41,callB_some,ok3,fvF,pvF,toI_int,w]
       exact search N k es hs hl m _ j (by omega) h2 h3 (by omega)
     | false =>
       have hge : ltc k es ≤ (i + j) / 2:=by
        rcases Nat.lt_or_ge ((i + j) / 2) (ltc k es) with h | h
        · rw [ltc_below hs h he] at hb;cases hb
        · exact h
       have c5 : ¬ Lib.compareBytes e.k k < 0:=fun h => by rw [(cmp_lt' e.k k).1 h] at hb;cases hb
       simp only [half i j hij (by omega),c1,c2,c3,c5,decide_true,decide_false,ifB_t,ifB_f,needB_true,Int.toNat_natCast,nthP_map entV he,hasT33e,cells_ent,List.headD_cons,List.tail_cons,toL_sl,s41,callB_some,ok3,fvF,pvF,toI_int,w]
       exact search N k es hs hl m i _ h1 hge (by omega) (by omega)
   · have c1 : ¬ ((i : Int) < (j : Int)):=by omega
     have ei : i = ltc k es:=by omega
     rw [has_ltc hs]
     rw [← ei]
     by_cases hn : i < es.length
     · obtain ⟨e,he⟩ : ∃ e,es[i]? = some e:=⟨_,List.getElem?_eq_getElem hn⟩
       have c4 : ((i : Int) < (es.length : Int)):=by omega
       have c2 : (0 : Int) ≤ (i : Int):=by omega
       have c3 : (i : Int) < ((es.map entV).length : Int):=by rw [List.length_map];omega
       have hz : (Lib.compareBytes e.k k == (0 : Int)) = (e.k == k):=by
        rw [Bool.eq_iff_iff,beq_iff_eq,beq_iff_eq];exact cmp_eq _ _
       simp only [c1,c2,c3,c4,decide_true,decide_false,ifB_t,ifB_f,needB_true,Int.toNat_natCast,nthP_map entV he,hasT33e,cells_ent,List.headD_cons,List.tail_cons,toL_sl,s41,callB_some,ok3,fvF,pvF,toI_int,he,hz]
     · have c4 : ¬ ((i : Int) < (es.length : Int)):=by omega
       have he : es[i]? = none:=List.getElem?_eq_none (by omega)
       simp only [c1,c4,decide_false,ifB_f,he]
theorem s40 (n : Nat) (k : List UInt8) (es : List Ent) (hs : Sorted es) (hl : es.length ≤ 1000) : pcall C (n + 1010) 40 [vEs es,vR k,.flat (.val (.fn (.func 41) [] []))] = some ([vI (ltc k es),vB (has k es)],[]):=by
 rw [pcall_step (by rfl) (by rfl),f40_api_Entry_byte_eq]
 unfold f40_api_Entry_byte f40_api_Entry_byte.pre
 rw [List.length_map]
 exact search (n + 1007) k es hs (by omega) _ 0 es.length (Nat.zero_le _) (ltc_le k es) (Nat.le_refl _) (by omega)
theorem s24 (n : Nat) (k : List UInt8) (es : List Ent) (bs : List PV) (c : Int) (hs : Sorted es) (hl : es.length ≤ 1000) : pcall C (n + 1011) 24 [vPg (es.map entV) bs c,vR k] = some ([vI (ltc k es),vB (has k es)],[]):=by
 rw [pcall_step (by rfl) (by rfl),f24_btree_page_place_eq]
 unfold f24_btree_page_place
 simp only [isS,deref_ptr,hasT63,Bool.and_self,needB_true,cells_pg,List.headD_cons,List.tail_cons,toL_sl,s40 _ k es hs hl,callB_some,ok34,fvF,pvF,toI_int,toB_bool]
end Go.Proofs.Ytnieankaikhmnaa

open Go Go.Ev Go.T14
set_option linter.unusedSimpArgs false
set_option linter.unusedVariables false
namespace Go.Proofs.Ytnieankaikhmnaa
def esOf : (d : Nat) → Tr d → List PV
 | 0,es => List.map entV (es : List Ent)
 | _ + 1,_ => []
def bsOf : (d : Nat) → Tr d → List PV
 | 0,_ => []
 | d + 1,bs => List.map (enc d) (bs : List (Tr d))
abbrev pgOf (d : Nat) (t : Tr d) : PV:=pgA (esOf d t) (bsOf d t) ((flat d t).length : Int)
abbrev vP (d : Nat) (t : Tr d) : OV := .flat (.val (.ptr (some 3) (pgOf d t)))
abbrev tB (d : Nat) (t : Tr d) : OV := .cont .box [.val (.ptr (some 3) (pgOf d t))]
abbrev vPs (d : Nat) (bs : List (Tr d)) : OV := .flat (.val (.sl none (bs.map (enc d))))
abbrev vPo (d : Nat) (bs : List (Tr d)) : OV := .flat (.own none (bs.map (enc d)) [])
theorem enc_eq (d : Nat) (t : Tr d) : enc d t = .ptr (some 3) (pgOf d t):=by cases d <;> rfl
theorem hasT55e (d : Nat) (t : Tr d) : hasT Try.prog 55 (enc d t) = true:=by rw [enc_eq];exact hasT55 _
theorem deref_enc (d : Nat) (t : Tr d) : PV.deref (enc d t) = pgOf d t:=by rw [enc_eq];rfl
theorem esOf_zero (es : Tr 0) : esOf 0 es = List.map entV (es : List Ent):=rfl
theorem bsOf_zero (es : Tr 0) : bsOf 0 es = []:=rfl
theorem esOf_succ (d : Nat) (bs : Tr (d + 1)) : esOf (d + 1) bs = []:=rfl
theorem bsOf_succ (d : Nat) (bs : Tr (d + 1)) : bsOf (d + 1) bs = List.map (enc d) (bs : List (Tr d)):=rfl
theorem s31 (n : Nat) (es : List Ent) : pcall C (n + 1) 31 [vEs es] = some ([vP 0 es],[]):=by
 rw [pcall_frz (bs:=[true]) (by rfl) (by rfl),f31_btree_leaf_eq]
 unfold f31_btree_leaf
 rw [List.length_map]
 rfl
theorem over_loop (rec : Rec) (n : Nat) (d : Nat) (bs : List (Tr d)) (hl : bs.length ≤ 1000000) (hc : (bs.flatMap (flat d)).length ≤ 1000000000) : ∀ (m i : Nat),i ≤ bs.length → bs.length - i < m →
 f29_btree_over.l0 rec n m [] (bs.map (enc d)) (((bs.take i).flatMap (flat d)).length : Int) (bs.map (enc d)) (bs.length : Int) (i : Int) =
  some ([.cont .box [.val (.sl (some 2) []),.val (.sl none (bs.map (enc d))),.val (.int .i64 ((bs.flatMap (flat d)).length : Int))]],[])
 | 0,i,_,h => by omega
 | m + 1,i,hi,h => by
   show f29_btree_over.l0.step _ _ (f29_btree_over.l0 _ _ m) _ _ _ _ _ _ = _
   unfold f29_btree_over.l0.step
   by_cases hlt : i < bs.length
   · obtain ⟨b,hb⟩ : ∃ b,bs[i]? = some b:=⟨_,List.getElem?_eq_getElem hlt⟩
     have c1 : (i : Int) < (bs.length : Int):=by omega
     have c2 : (0 : Int) ≤ (i : Int):=by omega
     have c3 : (i : Int) < ((bs.map (enc d)).length : Int):=by rw [List.length_map];omega
     have htk : bs.take (i + 1) = bs.take i ++ [b]:=by
      rw [List.take_add_one,hb];rfl
     have hlen : ((bs.take (i + 1)).flatMap (flat d)).length = ((bs.take i).flatMap (flat d)).length + (flat d b).length:=by
      rw [htk,List.flatMap_append,List.length_append];simp
     have hle : ((bs.take (i + 1)).flatMap (flat d)).length ≤ (bs.flatMap (flat d)).length:=by
      conv => rhs;rw [← List.take_append_drop (i + 1) bs]
      rw [List.flatMap_append,List.length_append];omega
     have w1 : IntKind.wrap .i64 ((((bs.take i).flatMap (flat d)).length : Int) + ((flat d b).length : Int)) = (((bs.take (i + 1)).flatMap (flat d)).length : Int):=by
      rw [hlen,IntKind.wrap_i64];omega
     have w2 : IntKind.wrap .i64 ((i : Int) + 1) = ((i + 1 : Nat) : Int):=wrap_succ (by omega)
     simp only [c1,c2,c3,decide_true,ifB_t,needB_true,Int.toNat_natCast,nthP_map (enc d) hb,hasT55e,deref_enc,isS,deref_ptr,hasT63,Bool.and_self,cells_pg,List.headD_cons,List.tail_cons,toI_int,w1,w2]
     exact over_loop rec n d bs hl hc m (i + 1) hlt (by omega)
   · have c1 : ¬ ((i : Int) < (bs.length : Int)):=by omega
     have e : bs.take i = bs:=List.take_of_length_le (by omega)
     simp only [c1,decide_false,ifB_f,e]
theorem s29 (N d : Nat) (bs : List (Tr d)) (hl : bs.length ≤ 1000) (hc : (bs.flatMap (flat d)).length ≤ 1000000000) (hN : 1002 ≤ N) : pcall C N 29 [vPs d bs] = some ([vP (d + 1) bs],[]):=by
 obtain ⟨n,rfl⟩ : ∃ n,N = n + 1002:=⟨N - 1002,by omega⟩
 rw [pcall_frz (bs:=[true]) (by rfl) (by rfl),f29_btree_over_eq]
 unfold f29_btree_over f29_btree_over.pre
 rw [List.length_map]
 have:=over_loop (pcall C (n + 1001)) (n + 1001) d bs (by omega) hc (n + 1001) 0 (Nat.zero_le _) (by omega)
 simp only [List.take_zero,List.flatMap_nil,List.length_nil] at this
 rw [show ((0 : Nat) : Int) = (0 : Int) from rfl] at this
 rw [this]
 rfl
theorem lst_succ {d : Nat} {b : Tr d} {r : List (Tr d)} (h : flat d b ≠ []) : lst (d + 1) (b :: r) = lst d b:=by
 obtain ⟨e,q,h1,h2⟩:=lst_mem h
 rw [h2]
 unfold lst
 rw [flat_succ,List.flatMap_cons,h1]
 rfl
theorem least_loop (rec : Rec) (n : Nat) : ∀ (d : Nat) (t : Tr d) (m : Nat),Okm d t → d < m → f57_btree_page_least.l0 rec n m (pgOf d t) = some ([vR (lst d t)],[])
 | _,_,0,_,h => by omega
 | 0,es,m + 1,ho,_ => by
   show f57_btree_page_least.l0.step _ _ (f57_btree_page_least.l0 _ _ m) _ = _
   unfold f57_btree_page_least.l0.step
   match es,ho with
   | e :: r,_ =>
     have he : (e :: r : List Ent)[0]? = some e:=rfl
     have c1 : ((0 : Int) < ((List.map entV (e :: r)).length : Int)):=by rw [List.length_map,List.length_cons];omega
     have c2 : ¬ (((([] : List PV).length : Nat) : Int) > (0 : Int)):=by simp
     simp only [isS,deref_ptr,hasT63,Bool.and_self,needB_true,cells_pg,List.headD_cons,List.tail_cons,toL_sl,esOf_zero,bsOf_zero,c1,c2,decide_true,decide_false,ifB_f,nthP_map entV he,hasT33e,cells_ent]
     rfl
   | [],h => exact absurd h.1 (by simp)
 | d + 1,bs,m + 1,ho,hm => by
   show f57_btree_page_least.l0.step _ _ (f57_btree_page_least.l0 _ _ m) _ = _
   unfold f57_btree_page_least.l0.step
   match bs,ho with
   | b :: r,ho =>
     have hb : (b :: r : List (Tr d))[0]? = some b:=rfl
     have hk : Okp d b:=ho.2.2 b (by simp)
     have c1 : ((0 : Int) < ((List.map (enc d) (b :: r)).length : Int)):=by rw [List.length_map,List.length_cons];omega
     have c2 : (((List.map (enc d) (b :: r)).length : Int) > (0 : Int)):=c1
     simp only [isS,deref_ptr,hasT63,Bool.and_self,needB_true,cells_pg,List.headD_cons,List.tail_cons,toL_sl,esOf_succ,bsOf_succ,c1,c2,decide_true,ifB_t,nthP_map (enc d) hb,hasT55e,deref_enc]
     rw [lst_succ (okp_ne hk)]
     exact least_loop rec n d b m (okp_okm hk) (by omega)
   | [],h => exact absurd h.1 (by simp)
theorem s57 (N d : Nat) (t : Tr d) (h : Okm d t) (hN : d + 2 ≤ N) : pcall C N 57 [vP d t] = some ([vR (lst d t)],[]):=by
 obtain ⟨n,rfl⟩ : ∃ n,N = n + 1:=⟨N - 1,by omega⟩
 rw [pcall_step (by rfl) (by rfl),f57_btree_page_least_eq]
 unfold f57_btree_page_least f57_btree_page_least.pre
 exact least_loop _ _ d t n h (by omega)
theorem way_loop (N n : Nat) (d : Nat) (k : List UInt8) (bs : List (Tr d)) (ho : ∀ b ∈ bs,Okp d b) (hl : bs.length ≤ 1000) (hN : d + 2 ≤ N) : ∀ (m i : Nat),i < bs.length → bs.length - i ≤ m →
 f43_btree_page_way.l0 (pcall C N) n m (pgOf (d + 1) bs) (bb k) (i : Int) = some ([vI ((i + wayL k ((bs.drop (i + 1)).map (lst d)) : Nat) : Int)],[])
 | 0,i,hi,h => by omega
 | m + 1,i,hi,h => by
   show f43_btree_page_way.l0.step _ _ (f43_btree_page_way.l0 _ _ m) _ _ _ = _
   unfold f43_btree_page_way.l0.step
   have w : IntKind.wrap .i64 ((i : Int) + 1) = ((i + 1 : Nat) : Int):=wrap_succ (by omega)
   by_cases hlt : i + 1 < bs.length
   · obtain ⟨b,hb⟩ : ∃ b,bs[i + 1]? = some b:=⟨_,List.getElem?_eq_getElem hlt⟩
     have hk : Okp d b:=ho b (List.mem_of_getElem? hb)
     have c1 : ((i + 1 : Nat) : Int) < ((List.map (enc d) bs).length : Int):=by rw [List.length_map];omega
     have c2 : (0 : Int) ≤ ((i + 1 : Nat) : Int):=by omega
     have hd : bs.drop (i + 1) = b :: bs.drop (i + 1 + 1):=by
      rw [List.drop_eq_getElem_cons hlt]
      congr 1
      rw [List.getElem?_eq_getElem hlt] at hb
      exact Option.some.inj hb
     obtain ⟨n',rfl⟩ : ∃ n',N = n' + 1:=⟨N - 1,by omega⟩
     have hlst:=s57 (n' + 1) d b (okp_okm hk) hN
     rw [hd,List.map_cons,wayL]
     cases hb2 : Op.bytesLess k (lst d b) with
     | true =>
       have c5 : ¬ Lib.compareBytes (lst d b) k ≤ 0:=fun h => by rw [(cmp_le' _ _).1 h] at hb2;cases hb2
       simp only [isS,deref_ptr,hasT63,Bool.and_self,needB_true,cells_pg,List.headD_cons,List.tail_cons,toL_sl,bsOf_succ,w,c1,c2,c5,decide_true,decide_false,ifB_t,ifB_f,Int.toNat_natCast,nthP_map (enc d) hb,hasT55e,deref_enc,hlst,callB_some,ok23v,s42,ok3,fvF,pvF,toI_int,if_true,Nat.add_zero]
     | false =>
       have c5 : Lib.compareBytes (lst d b) k ≤ 0:=(cmp_le' _ _).2 hb2
       simp only [isS,deref_ptr,hasT63,Bool.and_self,needB_true,cells_pg,List.headD_cons,List.tail_cons,toL_sl,bsOf_succ,w,c1,c2,c5,decide_true,ifB_t,Int.toNat_natCast,nthP_map (enc d) hb,hasT55e,deref_enc,hlst,callB_some,ok23v,s42,ok3,fvF,pvF,toI_int,Bool.false_eq_true,if_false]
       have:=way_loop (n' + 1) n d k bs ho hl hN m (i + 1) hlt (by omega)
       refine Eq.trans this ?_
       rw [show i + 1 + wayL k (List.map (lst d) (List.drop (i + 1 + 1) bs)) = i + (wayL k (List.map (lst d) (List.drop (i + 1 + 1) bs)) + 1) by omega]
   · have c1 : ¬ (((i + 1 : Nat) : Int) < ((List.map (enc d) bs).length : Int)):=by rw [List.length_map];omega
     have hd : bs.drop (i + 1) = []:=List.drop_eq_nil_iff.2 (by omega)
     simp only [isS,deref_ptr,hasT63,Bool.and_self,needB_true,cells_pg,List.headD_cons,List.tail_cons,toL_sl,bsOf_succ,w,c1,decide_false,ifB_f,hd,List.map_nil,wayL,Nat.add_zero]
theorem s43 (N d : Nat) (k : List UInt8) (bs : Tr (d + 1)) (ho : Okr (d + 1) bs) (hN : d + 10 ≤ N) : pcall C N 43 [vP (d + 1) bs,vR k] = some ([vI (way d bs k : Int)],[]):=by
 obtain ⟨n,rfl⟩ : ∃ n,N = n + 1:=⟨N - 1,by omega⟩
 have h1:=ho.1
 have h2:=ho.2.1
 rw [pcall_step (by rfl) (by rfl),f43_btree_page_way_eq]
 unfold f43_btree_page_way f43_btree_page_way.pre
 have:=way_loop n n d k bs ho.2.2 (by omega) (by omega) n 0 (by omega) (by omega)
 rw [show ((0 : Nat) : Int) = (0 : Int) from rfl] at this
 rw [this]
 unfold way
 rw [Nat.zero_add,Nat.zero_add,List.drop_one]
theorem s51 (n d : Nat) (t : Tr d) (h : sz d t ≤ 1000) : pcall C (n + 1) 51 [vP d t] = some ([vI (sz d t : Int)],[]):=by
 rw [pcall_step (by rfl) (by rfl),f51_btree_page_size_eq]
 unfold f51_btree_page_size
 simp only [isS,deref_ptr,hasT63,Bool.and_self,needB_true,cells_pg,List.headD_cons,List.tail_cons,toL_sl]
 have : (((esOf d t).length : Int) + ((bsOf d t).length : Int)) = (sz d t : Int):=by
  cases d with
  | zero => simp only [esOf,bsOf,List.length_map,List.length_nil,sz];omega
  | succ d => simp only [esOf,bsOf,List.length_map,List.length_nil,sz];omega
 rw [this,wrap_nat (by omega)]
theorem s14 (n d : Nat) (t : Tr d) : pcall C (n + 1) 14 [tB d t] = some ([vI ((flat d t).length : Int)],[tB d t]):=by
 rw [pcall_step (by rfl) (by rfl),f14_btree_Tree_Count_eq]
 unfold f14_btree_Tree_Count
 simp only [isS,deref_ptr,hasT63,Bool.and_self,needB_true,cells_pg,List.headD_cons,List.tail_cons,toI_int]
theorem s18 (n d : Nat) (t : Tr d) : pcall C (n + 1) 18 [tB d t] = some ([tB d t],[tB d t]):=by
 rw [pcall_step (by rfl) (by rfl),f18_btree_Tree_Clone_eq]
 rfl
theorem s17 (n : Nat) : pcall C (n + 2) 17 [] = some ([tB 0 []],[]):=by
 rw [pcall_step (by rfl) (by rfl),f17_btree_New_eq]
 unfold f17_btree_New
 have h : pcall C (n + 1) 31 [OV.flat (FV.val (PV.sl (some 2) []))] = some ([vP 0 []],[]):=s31 n []
 simp only [h,callB_some,ok55,needB_true,List.headD_cons,fvF,pvF,deref_ptr]
end Go.Proofs.Ytnieankaikhmnaa

open Go Go.Ev Go.T14
set_option linter.unusedSimpArgs false
set_option linter.unusedVariables false
namespace Go.Proofs.Ytnieankaikhmnaa
theorem hasT27 (a : List PV) : hasT Try.prog 27 (.sl (some 2) a) = true:=by kernel_rfl
theorem hasT61 (a : List PV) : hasT Try.prog 61 (.sl none a) = true:=by kernel_rfl
theorem ce_l1 (rec : Rec) (n : Nat) (ps : List (List PV)) (hl : ps.length ≤ 1000) (hc : ps.flatten.length ≤ 1000000) : ∀ (m i : Nat),i ≤ ps.length → ps.length - i < m →
 f64_api_Entry.l1 rec n m (ps.take i).flatten (ps.map (.sl (some 2))) (ps.length : Int) (i : Int) = some ([.flat (.own (some 2) ps.flatten [])],[])
 | 0,i,_,h => by omega
 | m + 1,i,hi,h => by
   show f64_api_Entry.l1.step _ _ (f64_api_Entry.l1 _ _ m) _ _ _ _ = _
   unfold f64_api_Entry.l1.step
   by_cases hlt : i < ps.length
   · obtain ⟨b,hb⟩ : ∃ b,ps[i]? = some b:=⟨_,List.getElem?_eq_getElem hlt⟩
     have c1 : (i : Int) < (ps.length : Int):=by omega
     have c2 : (0 : Int) ≤ (i : Int):=by omega
     have c3 : (i : Int) < ((ps.map (PV.sl (some 2))).length : Int):=by rw [List.length_map];omega
     have htk : (ps.take (i + 1)).flatten = (ps.take i).flatten ++ b:=by
      rw [List.take_add_one,hb,List.flatten_append];simp
     have hle : ((ps.take (i + 1)).flatten).length ≤ ps.flatten.length:=by
      conv => rhs;rw [← List.take_append_drop (i + 1) ps]
      rw [List.flatten_append,List.length_append];omega
     rw [htk,List.length_append] at hle
     have b1 : Nat.ble (((ps.take i).flatten.length + b.length) * 48) 140737488355328 = true:=by rw [Nat.ble_eq];omega
     have b2 : Nat.ble ((ps.take i).flatten.length + b.length) 9223372036854775807 = true:=by rw [Nat.ble_eq];omega
     have w2 : IntKind.wrap .i64 ((i : Int) + 1) = ((i + 1 : Nat) : Int):=wrap_succ (by omega)
     simp only [c1,c2,c3,decide_true,ifB_t,needB_true,Int.toNat_natCast,nthP_map (PV.sl (some 2)) hb,hasT27,toL_sl,b1,b2,w2,← htk]
     exact ce_l1 rec n ps hl hc m (i + 1) hlt (by omega)
   · have c1 : ¬ ((i : Int) < (ps.length : Int)):=by omega
     have e : ps.take i = ps:=List.take_of_length_le (by omega)
     simp only [c1,decide_false,ifB_f,e]
theorem ce_l0 (N n : Nat) (ps : List (List PV)) (hl : ps.length ≤ 1000) (hc : ps.flatten.length ≤ 1000000) (hn : ps.length < n) : ∀ (m i : Nat),i ≤ ps.length → ps.length - i < m →
 f64_api_Entry.l0 (pcall C (N + 1)) n m (ps.map (.sl (some 2))) ((ps.take i).flatten.length : Int) (ps.map (.sl (some 2))) (ps.length : Int) (i : Int) = some ([.flat (.own (some 2) ps.flatten [])],[])
 | 0,i,_,h => by omega
 | m + 1,i,hi,h => by
   show f64_api_Entry.l0.step _ _ _ (f64_api_Entry.l0 _ _ m) _ _ _ _ _ = _
   unfold f64_api_Entry.l0.step
   by_cases hlt : i < ps.length
   · obtain ⟨b,hb⟩ : ∃ b,ps[i]? = some b:=⟨_,List.getElem?_eq_getElem hlt⟩
     have c1 : (i : Int) < (ps.length : Int):=by omega
     have c2 : (0 : Int) ≤ (i : Int):=by omega
     have c3 : (i : Int) < ((ps.map (PV.sl (some 2))).length : Int):=by rw [List.length_map];omega
     have htk : (ps.take (i + 1)).flatten = (ps.take i).flatten ++ b:=by
      rw [List.take_add_one,hb,List.flatten_append];simp
     have hle : ((ps.take (i + 1)).flatten).length ≤ ps.flatten.length:=by
      conv => rhs;rw [← List.take_append_drop (i + 1) ps]
      rw [List.flatten_append,List.length_append];omega
     have hlen : ((ps.take (i + 1)).flatten).length = (ps.take i).flatten.length + b.length:=by rw [htk,List.length_append]
     have w1 : IntKind.wrap .i64 (((ps.take i).flatten.length : Int) + (b.length : Int)) = (((ps.take (i + 1)).flatten.length : Nat) : Int):=by
      rw [hlen,IntKind.wrap_i64];omega
     have c4 : ¬ ((((ps.take (i + 1)).flatten.length : Nat) : Int) < (0 : Int)):=by omega
     have w2 : IntKind.wrap .i64 ((i : Int) + 1) = ((i + 1 : Nat) : Int):=wrap_succ (by omega)
     simp only [c1,c2,c3,decide_true,ifB_t,needB_true,Int.toNat_natCast,nthP_map (PV.sl (some 2)) hb,hasT27,toL_sl,w1,c4,decide_false,ifB_f,w2]
     exact ce_l0 N n ps hl hc hn m (i + 1) hlt (by omega)
   · have c1 : ¬ ((i : Int) < (ps.length : Int)):=by omega
     have e : ps.take i = ps:=List.take_of_length_le (by omega)
     have hg : pcall C (N + 1) 68 [.flat (.own (some 2) [] []),vI (ps.flatten.length : Int)] = some ([.flat (.own (some 2) [] [])],[]):=by
      rw [pcall_prim (p:=primGrow (some 2)) (by rfl)]
      unfold primGrow
      have d1 : decide ((0 : Int) ≤ (ps.flatten.length : Int)) = true:=by simp
      have d2 : decide ((ps.flatten.length : Int) ≤ 10000000) = true:=decide_eq_true (by omega)
      simp only [d1,d2,Bool.and_true]
      rfl
     have:=ce_l1 (pcall C (N + 1)) n ps hl hc n 0 (Nat.zero_le _) (by omega)
     rw [List.take_zero,show (([] : List (List PV)).flatten) = [] from rfl,show ((0 : Nat) : Int) = (0 : Int) from rfl] at this
     simp only [c1,decide_false,ifB_f,e,hg,callB_some,ok27,needB_true,List.headD_cons,fvF,xsO,List.length_map,this]
theorem cp_l1 (rec : Rec) (n : Nat) (ps : List (List PV)) (hl : ps.length ≤ 1000) (hc : ps.flatten.length ≤ 1000000) : ∀ (m i : Nat),i ≤ ps.length → ps.length - i < m →
 f65_btree_page.l1 rec n m (ps.take i).flatten (ps.map (.sl none)) (ps.length : Int) (i : Int) = some ([.flat (.own none ps.flatten [])],[])
 | 0,i,_,h => by omega
 | m + 1,i,hi,h => by
   show f65_btree_page.l1.step _ _ (f65_btree_page.l1 _ _ m) _ _ _ _ = _
   unfold f65_btree_page.l1.step
   by_cases hlt : i < ps.length
   · obtain ⟨b,hb⟩ : ∃ b,ps[i]? = some b:=⟨_,List.getElem?_eq_getElem hlt⟩
     have c1 : (i : Int) < (ps.length : Int):=by omega
     have c2 : (0 : Int) ≤ (i : Int):=by omega
     have c3 : (i : Int) < ((ps.map (PV.sl none)).length : Int):=by rw [List.length_map];omega
     have htk : (ps.take (i + 1)).flatten = (ps.take i).flatten ++ b:=by
      rw [List.take_add_one,hb,List.flatten_append];simp
     have hle : ((ps.take (i + 1)).flatten).length ≤ ps.flatten.length:=by
      conv => rhs;rw [← List.take_append_drop (i + 1) ps]
      rw [List.flatten_append,List.length_append];omega
     rw [htk,List.length_append] at hle
     have b1 : Nat.ble (((ps.take i).flatten.length + b.length) * 8) 140737488355328 = true:=by rw [Nat.ble_eq];omega
     have b2 : Nat.ble ((ps.take i).flatten.length + b.length) 9223372036854775807 = true:=by rw [Nat.ble_eq];omega
     have w2 : IntKind.wrap .i64 ((i : Int) + 1) = ((i + 1 : Nat) : Int):=wrap_succ (by omega)
     simp only [c1,c2,c3,decide_true,ifB_t,needB_true,Int.toNat_natCast,nthP_map (PV.sl none) hb,hasT61,toL_sl,b1,b2,w2,← htk]
     exact cp_l1 rec n ps hl hc m (i + 1) hlt (by omega)
   · have c1 : ¬ ((i : Int) < (ps.length : Int)):=by omega
     have e : ps.take i = ps:=List.take_of_length_le (by omega)
     simp only [c1,decide_false,ifB_f,e]
theorem cp_l0 (N n : Nat) (ps : List (List PV)) (hl : ps.length ≤ 1000) (hc : ps.flatten.length ≤ 1000000) (hn : ps.length < n) : ∀ (m i : Nat),i ≤ ps.length → ps.length - i < m →
 f65_btree_page.l0 (pcall C (N + 1)) n m (ps.map (.sl none)) ((ps.take i).flatten.length : Int) (ps.map (.sl none)) (ps.length : Int) (i : Int) = some ([.flat (.own none ps.flatten [])],[])
 | 0,i,_,h => by omega
 | m + 1,i,hi,h => by
   show f65_btree_page.l0.step _ _ _ (f65_btree_page.l0 _ _ m) _ _ _ _ _ = _
   unfold f65_btree_page.l0.step
   by_cases hlt : i < ps.length
   · obtain ⟨b,hb⟩ : ∃ b,ps[i]? = some b:=⟨_,List.getElem?_eq_getElem hlt⟩
     have c1 : (i : Int) < (ps.length : Int):=by omega
     have c2 : (0 : Int) ≤ (i : Int):=by omega
     have c3 : (i : Int) < ((ps.map (PV.sl none)).length : Int):=by rw [List.length_map];omega
     have htk : (ps.take (i + 1)).flatten = (ps.take i).flatten ++ b:=by
      rw [List.take_add_one,hb,List.flatten_append];simp
     have hle : ((ps.take (i + 1)).flatten).length ≤ ps.flatten.length:=by
      conv => rhs;rw [← List.take_append_drop (i + 1) ps]
      rw [List.flatten_append,List.length_append];omega
     have hlen : ((ps.take (i + 1)).flatten).length = (ps.take i).flatten.length + b.length:=by rw [htk,List.length_append]
     have w1 : IntKind.wrap .i64 (((ps.take i).flatten.length : Int) + (b.length : Int)) = (((ps.take (i + 1)).flatten.length : Nat) : Int):=by
      rw [hlen,IntKind.wrap_i64];omega
     have c4 : ¬ ((((ps.take (i + 1)).flatten.length : Nat) : Int) < (0 : Int)):=by omega
     have w2 : IntKind.wrap .i64 ((i : Int) + 1) = ((i + 1 : Nat) : Int):=wrap_succ (by omega)
     simp only [c1,c2,c3,decide_true,ifB_t,needB_true,Int.toNat_natCast,nthP_map (PV.sl none) hb,hasT61,toL_sl,w1,c4,decide_false,ifB_f,w2]
     exact cp_l0 N n ps hl hc hn m (i + 1) hlt (by omega)
   · have c1 : ¬ ((i : Int) < (ps.length : Int)):=by omega
     have e : ps.take i = ps:=List.take_of_length_le (by omega)
     have hg : pcall C (N + 1) 69 [.flat (.own none [] []),vI (ps.flatten.length : Int)] = some ([.flat (.own none [] [])],[]):=by
      rw [pcall_prim (p:=primGrow none) (by rfl)]
      unfold primGrow
      have d1 : decide ((0 : Int) ≤ (ps.flatten.length : Int)) = true:=by simp
      have d2 : decide ((ps.flatten.length : Int) ≤ 10000000) = true:=decide_eq_true (by omega)
      simp only [d1,d2,Bool.and_true]
      rfl
     have:=cp_l1 (pcall C (N + 1)) n ps hl hc n 0 (Nat.zero_le _) (by omega)
     rw [List.take_zero,show (([] : List (List PV)).flatten) = [] from rfl,show ((0 : Nat) : Int) = (0 : Int) from rfl] at this
     simp only [c1,decide_false,ifB_f,e,hg,callB_some,ok61,needB_true,List.headD_cons,fvF,xsO,List.length_map,this]
theorem s64 (n : Nat) (x y : List PV) (h : x.length + y.length ≤ 1000000) : pcall C (n + 10) 64 [.flat (.val (.sl none [.sl (some 2) x,.sl (some 2) y]))] = some ([.flat (.own (some 2) (x ++ y) [])],[]):=by
 rw [pcall_step (by rfl) (by rfl),f64_api_Entry_eq]
 unfold f64_api_Entry f64_api_Entry.pre
 have:=ce_l0 (n + 8) (n + 9) [x,y] (by simp) (by simp;omega) (by simp) (n + 9) 0 (Nat.zero_le _) (by simp)
 rw [show [x,y].flatten = x ++ y by simp] at this
 exact this
theorem s65 (n : Nat) (x y : List PV) (h : x.length + y.length ≤ 1000000) : pcall C (n + 10) 65 [.flat (.val (.sl none [.sl none x,.sl none y]))] = some ([.flat (.own none (x ++ y) [])],[]):=by
 rw [pcall_step (by rfl) (by rfl),f65_btree_page_eq]
 unfold f65_btree_page f65_btree_page.pre
 have:=cp_l0 (n + 8) (n + 9) [x,y] (by simp) (by simp;omega) (by simp) (n + 9) 0 (Nat.zero_le _) (by simp)
 rw [show [x,y].flatten = x ++ y by simp] at this
 exact this
theorem s44 (n : Nat) (x : List PV) (h : x.length ≤ 1000000) : pcall C (n + 1) 44 [.flat (.val (.sl (some 2) x))] = some ([.flat (.own (some 2) x [])],[]):=by
 rw [pcall_prim (p:=primSlClone (some 2)) (by rfl)]
 unfold primSlClone
 have : Nat.ble x.length 1000000 = true:=by rw [Nat.ble_eq];exact h
 simp only [this,Bool.and_true]
 rfl
theorem s49 (n : Nat) (x : List PV) (h : x.length ≤ 1000000) : pcall C (n + 1) 49 [.flat (.val (.sl none x))] = some ([.flat (.own none x [])],[]):=by
 rw [pcall_prim (p:=primSlClone none) (by rfl)]
 unfold primSlClone
 have : Nat.ble x.length 1000000 = true:=by rw [Nat.ble_eq];exact h
 simp only [this,Bool.and_true]
 rfl
theorem s45 (n : Nat) (x : List PV) (i : Nat) (y : PV) (h : x.length ≤ 1000000) (hi : i ≤ x.length) : pcall C (n + 1) 45 [.flat (.own (some 2) x []),vI (i : Int),.flat (.own (some 2) [y] [])] = some ([.flat (.own (some 2) (x.take i ++ [y] ++ x.drop i) [])],[]):=by
 rw [pcall_prim (p:=primInsert (some 2)) (by rfl)]
 unfold primInsert
 have b1 : Nat.ble x.length 1000000 = true:=by rw [Nat.ble_eq];exact h
 have b2 : decide ((0 : Int) ≤ (i : Int)) = true:=by simp
 have b3 : decide ((i : Int) ≤ (x.length : Int)) = true:=by simp;omega
 simp only [b1,b2,b3,Bool.and_true,Int.toNat_natCast]
 rfl
theorem s48 (n : Nat) (x y : List PV) (i j : Nat) (h : x.length ≤ 1000000) (hij : i < j) (hj : j ≤ x.length) (hy : 0 < y.length) (hy2 : y.length ≤ 1000) : pcall C (n + 1) 48 [.flat (.own none x []),vI (i : Int),vI (j : Int),.flat (.own none y [])] = some ([.flat (.own none (x.take i ++ y ++ x.drop j) [])],[]):=by
 rw [pcall_prim (p:=primReplace none) (by rfl)]
 unfold primReplace
 have b1 : Nat.ble x.length 1000000 = true:=by rw [Nat.ble_eq];exact h
 have b2 : decide ((0 : Int) ≤ (i : Int)) = true:=by simp
 have b3 : decide ((i : Int) < (j : Int)) = true:=by simp;omega
 have b4 : decide ((j : Int) ≤ (x.length : Int)) = true:=by simp;omega
 have b5 : Nat.blt 0 y.length = true:=by rw [Nat.blt_eq];exact hy
 have b6 : Nat.ble y.length 1000 = true:=by rw [Nat.ble_eq];exact hy2
 simp only [b1,b2,b3,b4,b5,b6,Bool.and_true,Int.toNat_natCast]
 rfl
theorem s50 (n : Nat) (x : List PV) (i j : Nat) (h : x.length ≤ 1000000) (hij : i < j) (hj : j ≤ x.length) : pcall C (n + 1) 50 [.flat (.own (some 2) x []),vI (i : Int),vI (j : Int)] = some ([.flat (.own (some 2) (x.take i ++ x.drop j) [])],[]):=by
 rw [pcall_prim (p:=primDelete (some 2)) (by rfl)]
 unfold primDelete
 have b1 : Nat.ble x.length 1000000 = true:=by rw [Nat.ble_eq];exact h
 have b2 : decide ((0 : Int) ≤ (i : Int)) = true:=by simp
 have b3 : decide ((i : Int) < (j : Int)) = true:=by simp;omega
 have b4 : decide ((j : Int) ≤ (x.length : Int)) = true:=by simp;omega
 simp only [b1,b2,b3,b4,Bool.and_true,Int.toNat_natCast]
 rfl
theorem half5 (l : Nat) (h : l ≤ 1000000) : IntKind.wrap .i64 (Int.tdiv (IntKind.wrap .i64 ((l : Int) + (1 : Int))) (2 : Int)) = (((l + 1) / 2 : Nat) : Int):=by
 have e1 : IntKind.wrap .i64 ((l : Int) + (1 : Int)) = ((l + 1 : Nat) : Int):=wrap_succ (by omega)
 rw [e1,show ((2 : Int)) = ((2 : Nat) : Int) from rfl,← Int.ofNat_tdiv,wrap_nat (by omega)]
theorem s46 (n : Nat) (l : List Ent) (h : l.length ≤ 1000) : pcall C (n + 2) 46 [vEs l] = some ([vPo 0 (halves l)],[]):=by
 rw [pcall_step (by rfl) (by rfl),f46_btree_leaves_eq]
 unfold f46_btree_leaves
 by_cases hl : l.length ≤ 4
 · have c1 : (((l.map entV).length : Nat) : Int) ≤ 4:=by rw [List.length_map];omega
   have e : halves l = [l]:=if_pos hl
   simp only [c1,decide_true,ifB_t,s31,callB_some,ok55,needB_true,List.headD_cons,fvF,pvF,deref_ptr,e,List.map_cons,List.map_nil]
   rfl
 · have c1 : ¬ ((((l.map entV).length : Nat) : Int) ≤ 4):=by rw [List.length_map];omega
   have e : halves l = [l.take ((l.length + 1) / 2),l.drop ((l.length + 1) / 2)]:=if_neg hl
   have c2 : (0 : Int) ≤ (((l.length + 1) / 2 : Nat) : Int):=by omega
   have c3 : (((l.length + 1) / 2 : Nat) : Int) ≤ (l.length : Int):=by omega
   have c4 : (((l.length + 1) / 2 : Nat) : Int) ≤ (((l.length + 1) / 2 : Nat) : Int):=by omega
   have h1 : pcall C (n + 1) 31 [.flat (.val (.sl (some 2) ((l.map entV).take ((l.length + 1) / 2))))] = some ([vP 0 (l.take ((l.length + 1) / 2))],[]):=by rw [← List.map_take];exact s31 n _
   have h2 : pcall C (n + 1) 31 [.flat (.val (.sl (some 2) ((l.map entV).drop ((l.length + 1) / 2))))] = some ([vP 0 (l.drop ((l.length + 1) / 2))],[]):=by rw [← List.map_drop];exact s31 n _
   simp only [List.length_map] at c1
   simp only [List.length_map,half5 l.length (by omega),c1,c2,c3,c4,decide_true,decide_false,ifB_f,Int.toNat_natCast,h1,h2,callB_some,ok55,needB_true,List.headD_cons,fvF,pvF,deref_ptr,e,List.map_cons,List.map_nil]
   rfl
theorem s47 (N d : Nat) (l : List (Tr d)) (h : l.length ≤ 1000) (hc : (l.flatMap (flat d)).length ≤ 1000000000) (hN : 1010 ≤ N) : pcall C N 47 [vPs d l] = some ([vPo (d + 1) (halves l)],[]):=by
 obtain ⟨n,rfl⟩ : ∃ n,N = n + 1:=⟨N - 1,by omega⟩
 rw [pcall_step (by rfl) (by rfl),f47_btree_pages_eq]
 unfold f47_btree_pages
 by_cases hl : l.length ≤ 4
 · have c1 : (((l.map (enc d)).length : Nat) : Int) ≤ 4:=by rw [List.length_map];omega
   have e : halves l = [l]:=if_pos hl
   simp only [c1,decide_true,ifB_t,s29 n d l h hc (by omega),callB_some,ok55,needB_true,List.headD_cons,fvF,pvF,deref_ptr,e,List.map_cons,List.map_nil]
   rfl
 · have c1 : ¬ ((((l.map (enc d)).length : Nat) : Int) ≤ 4):=by rw [List.length_map];omega
   have e : halves l = [l.take ((l.length + 1) / 2),l.drop ((l.length + 1) / 2)]:=if_neg hl
   have c2 : (0 : Int) ≤ (((l.length + 1) / 2 : Nat) : Int):=by omega
   have c3 : (((l.length + 1) / 2 : Nat) : Int) ≤ (l.length : Int):=by omega
   have c4 : (((l.length + 1) / 2 : Nat) : Int) ≤ (((l.length + 1) / 2 : Nat) : Int):=by omega
   have hc' : ((l.take ((l.length + 1) / 2)).flatMap (flat d)).length + ((l.drop ((l.length + 1) / 2)).flatMap (flat d)).length = (l.flatMap (flat d)).length:=by
    rw [← List.length_append,← List.flatMap_append,List.take_append_drop]
   have h1 : pcall C n 29 [.flat (.val (.sl none ((l.map (enc d)).take ((l.length + 1) / 2))))] = some ([vP (d + 1) (l.take ((l.length + 1) / 2))],[]):=by rw [← List.map_take];exact s29 n d (l.take ((l.length + 1) / 2)) (by rw [List.length_take];omega) (by omega) (by omega)
   have h2 : pcall C n 29 [.flat (.val (.sl none ((l.map (enc d)).drop ((l.length + 1) / 2))))] = some ([vP (d + 1) (l.drop ((l.length + 1) / 2))],[]):=by rw [← List.map_drop];exact s29 n d (l.drop ((l.length + 1) / 2)) (by rw [List.length_drop];omega) (by omega) (by omega)
   simp only [List.length_map] at c1
   simp only [List.length_map,half5 l.length (by omega),c1,c2,c3,c4,decide_true,decide_false,ifB_f,Int.toNat_natCast,h1,h2,callB_some,ok55,needB_true,List.headD_cons,fvF,pvF,deref_ptr,e,List.map_cons,List.map_nil]
   rfl
end Go.Proofs.Ytnieankaikhmnaa

open Go Go.Ev Go.T14
set_option linter.unusedSimpArgs false
set_option linter.unusedVariables false
namespace Go.Proofs.Ytnieankaikhmnaa
theorem okOuts25 (v : PV) : okOuts Try.prog [25,23] [.io (.b [false]),.ro] [.cont .box [.val (.ptr (some 3) v)],.flat .gone] = true:=by kernel_rfl
theorem list_nez (n : Nat) (h : n ≠ 0) : (((n : Nat) : Int) == (0 : Int)) = false:=by
 have : ((n : Nat) : Int) ≠ 0:=by omega
 simpa using this
def none0 : Ent:=⟨[],[]⟩
abbrev fnd (k : List UInt8) (l : List Ent) : Ent:=(getL k l).getD none0
theorem find_loop (N n : Nat) (x0 : PV) (key : List UInt8) : ∀ (d : Nat) (t : Tr d) (m : Nat),Okr d t → Sorted (flat d t) → d < m → 1011 + d ≤ N →
 f26_btree_Tree_find.l0 (pcall C N) n m x0 (bb key) (pgOf d t) = some ([vE (fnd key (flat d t)),vB (has key (flat d t))],[.cont .box [.val (.ptr (some 3) x0)],.flat .gone])
 | _,_,0,_,_,h,_ => by omega
 | 0,es,m + 1,ho,hs,_,hN => by
   show f26_btree_Tree_find.l0.step _ _ (f26_btree_Tree_find.l0 _ _ m) _ _ _ = _
   unfold f26_btree_Tree_find.l0.step
   obtain ⟨N',rfl⟩ : ∃ N',N = N' + 1011:=⟨N - 1011,by omega⟩
   have ho' : (es : List Ent).length ≤ 4:=ho
   have hs' : Sorted (es : List Ent):=hs
   have h24 : pcall C (N' + 1011) 24 [vP 0 es,vR key] = some ([vI (ltc key es),vB (has key es)],[]):=s24 N' key es [] ((flat 0 es).length : Int) hs' (by omega)
   have c0 : ((([] : List PV).length : Nat) : Int) = 0:=rfl
   have cz : (((0 : Int)) == (0 : Int)) = true:=rfl
   have hg:=getL_at (k:=key) hs'
   change _ = some ([vE (fnd key es),vB (has key es)],_)
   cases hh : has key (es : List Ent) with
   | true =>
     obtain ⟨e,he,hk,_⟩:=has_at hs' hh
     have hlt:=ltc_has_lt hs' hh
     rw [hh,if_pos rfl,he] at hg
     have c1 : (0 : Int) ≤ ((ltc key es : Nat) : Int):=by omega
     have c2 : ((ltc key es : Nat) : Int) < (((List.map entV es).length : Nat) : Int):=by rw [List.length_map];omega
     simp only [isS,deref_ptr,hasT63,Bool.and_self,needB_true,cells_pg,List.headD_cons,List.tail_cons,toL_sl,esOf_zero,bsOf_zero,c0,cz,ifB_t,h24,callB_some,ok34,fvF,pvF,toI_int,toB_bool,hh,c1,c2,decide_true,Int.toNat_natCast,nthP_map entV he,hasT33e,cells_ent,fnd,hg,Option.getD_some]
   | false =>
     rw [hh,if_neg (by simp)] at hg
     simp only [isS,deref_ptr,hasT63,Bool.and_self,needB_true,cells_pg,List.headD_cons,List.tail_cons,toL_sl,esOf_zero,bsOf_zero,c0,cz,ifB_t,ifB_f,h24,callB_some,ok34,fvF,pvF,toI_int,toB_bool,hh,fnd,hg,Option.getD_none]
     rfl
 | d + 1,bs,m + 1,ho,hs,hm,hN => by
   show f26_btree_Tree_find.l0.step _ _ (f26_btree_Tree_find.l0 _ _ m) _ _ _ = _
   unfold f26_btree_Tree_find.l0.step
   have h43:=s43 N d key bs ho (by omega)
   obtain ⟨A,b,C',rfl,h2,h3,h4,hb,hsb,hA,hC,hf⟩:=way_at key ho hs
   have hat : (A ++ b :: C')[A.length]? = some b:=at_split.1
   have c0 : (((List.map (enc d) (A ++ b :: C')).length : Nat) : Int) = (((A ++ b :: C').length : Nat) : Int):=by rw [List.length_map]
   have cz : ((((A ++ b :: C').length : Nat) : Int) == (0 : Int)) = false:=list_nez _ (by simp)
   have c1 : (0 : Int) ≤ ((A.length : Nat) : Int):=by omega
   have c2 : ((A.length : Nat) : Int) < (((A ++ b :: C').length : Nat) : Int):=by rw [List.length_append,List.length_cons];omega
   rw [← h2] at h43
   have hget : fnd key (flat (d + 1) (A ++ b :: C')) = fnd key (flat d b):=by
    unfold fnd
    rw [hf,getL_append (ne_of_lt h3) (ne_of_gt h4)]
   have hhas : has key (flat (d + 1) (A ++ b :: C')) = has key (flat d b):=by rw [hf,has_append (ne_of_lt h3) (ne_of_gt h4)]
   rw [hget,hhas]
   simp only [isS,deref_ptr,hasT63,Bool.and_self,needB_true,cells_pg,List.headD_cons,List.tail_cons,toL_sl,esOf_succ,bsOf_succ,List.length_map,cz,ifB_f,h43,callB_some,ok3,needB_true,List.headD_cons,fvF,pvF,toI_int,c1,c2,decide_true,Int.toNat_natCast,nthP_map (enc d) hat,hasT55e,deref_enc]
   exact find_loop N n x0 key d b m (okp_okr hb) hsb (by omega) (by omega)
theorem s26 (N d : Nat) (t : Tr d) (key : List UInt8) (ho : Okr d t) (hs : Sorted (flat d t)) (hN : 1020 + d ≤ N) : pcall C N 26 [tB d t,vR key] = some ([vE (fnd key (flat d t)),vB (has key (flat d t))],[tB d t,.flat .gone]):=by
 obtain ⟨n,rfl⟩ : ∃ n,N = n + 1:=⟨N - 1,by omega⟩
 rw [pcall_step (by rfl) (by rfl),f26_btree_Tree_find_eq]
 unfold f26_btree_Tree_find f26_btree_Tree_find.pre
 exact find_loop n n (pgOf d t) key d t n ho hs (by omega) (by omega)
theorem s13 (N d : Nat) (t : Tr d) (key : List UInt8) (ho : Okr d t) (hs : Sorted (flat d t)) (hsh : Short big (flat d t)) (hN : 1021 + d ≤ N) : pcall C N 13 [tB d t,vR key] = some ([vO (fnd key (flat d t)).v,vB (has key (flat d t))],[tB d t,.flat .gone]):=by
 obtain ⟨n,rfl⟩ : ∃ n,N = n + 2:=⟨N - 2,by omega⟩
 rw [pcall_step (by rfl) (by rfl),f13_btree_Tree_Get_eq]
 unfold f13_btree_Tree_Get
 have hl : (fnd key (flat d t)).v.length ≤ big:=by
  unfold fnd
  cases hg : getL key (flat d t) with
  | none => exact Nat.zero_le _
  | some e => exact (hsh e ((getL_some hs).1 hg).1).2
 simp only [s26 (n + 1) d t key ho hs (by omega),callB_some,ok334,okOuts25,needB_true,List.headD_cons,List.tail_cons,fvF,pvF,cells_agg,toL_sl,s27 n _ hl,ok23,xsO,toB_bool,cells_box,deref_ptr]
theorem depth_loop (rec : Rec) (n : Nat) (x0 : PV) : ∀ (d : Nat) (t : Tr d) (m c : Nat),Okr d t → d < m → c + d ≤ 1000000 → f22_btree_Tree_Depth.l0 rec n m x0 (c : Int) (pgOf d t) = some ([vI ((c + d : Nat) : Int)],[.cont .box [.val (.ptr (some 3) x0)]])
 | _,_,0,_,_,h,_ => by omega
 | 0,es,m + 1,c,ho,_,_ => by
   show f22_btree_Tree_Depth.l0.step _ _ (f22_btree_Tree_Depth.l0 _ _ m) _ _ _ = _
   unfold f22_btree_Tree_Depth.l0.step
   have c2 : ¬ (((([] : List PV).length : Nat) : Int) > (0 : Int)):=by simp
   simp only [isS,deref_ptr,hasT63,Bool.and_self,needB_true,cells_pg,List.headD_cons,List.tail_cons,toL_sl,esOf_zero,bsOf_zero,c2,decide_false,ifB_f,Nat.add_zero]
 | d + 1,bs,m + 1,c,ho,hm,hc => by
   show f22_btree_Tree_Depth.l0.step _ _ (f22_btree_Tree_Depth.l0 _ _ m) _ _ _ = _
   unfold f22_btree_Tree_Depth.l0.step
   match bs,ho with
   | b :: r,ho =>
     have hb : (b :: r : List (Tr d))[0]? = some b:=rfl
     have hk : Okp d b:=ho.2.2 b (by simp)
     have c1 : ((0 : Int) < ((List.map (enc d) (b :: r)).length : Int)):=by rw [List.length_map,List.length_cons];omega
     have c2 : (((List.map (enc d) (b :: r)).length : Int) > (0 : Int)):=c1
     have w : IntKind.wrap .i64 ((c : Int) + 1) = ((c + 1 : Nat) : Int):=wrap_succ (by omega)
     simp only [isS,deref_ptr,hasT63,Bool.and_self,needB_true,cells_pg,List.headD_cons,List.tail_cons,toL_sl,esOf_succ,bsOf_succ,c1,c2,decide_true,ifB_t,nthP_map (enc d) hb,hasT55e,deref_enc,w]
     rw [show c + (d + 1) = c + 1 + d by omega]
     exact depth_loop rec n x0 d b m (c + 1) (okp_okr hk) (by omega) (by omega)
   | [],h => exact absurd h.1 (by simp)
theorem s22 (N d : Nat) (t : Tr d) (ho : Okr d t) (hd : d ≤ 1000) (hN : d + 5 ≤ N) : pcall C N 22 [tB d t] = some ([vI ((d + 1 : Nat) : Int)],[tB d t]):=by
 obtain ⟨n,rfl⟩ : ∃ n,N = n + 1:=⟨N - 1,by omega⟩
 rw [pcall_step (by rfl) (by rfl),f22_btree_Tree_Depth_eq]
 unfold f22_btree_Tree_Depth f22_btree_Tree_Depth.pre
 have:=depth_loop (pcall C n) n (pgOf d t) d t n 1 ho (by omega) (by omega)
 rw [Nat.add_comm d 1]
 exact this
theorem put_flat_len {d : Nat} {t : Tr d} {e : Ent} (ho : Okr d t) (hs : Sorted (flat d t)) : ((put d t e).flatMap (flat d)).length ≤ (flat d t).length + 1:=by
 rw [put_flat d t e ho hs,insL_length hs]
 split <;> omega
theorem put_len {d : Nat} {t : Tr d} {e : Ent} (ho : Okr d t) (hs : Sorted (flat d t)) : 1 ≤ (put d t e).length ∧ (put d t e).length ≤ 2:=by
 rcases put_ok d t e ho hs with ⟨x,hx,_⟩ | ⟨x,y,hx,_⟩ <;> rw [hx] <;> simp
theorem s28 : ∀ (d N : Nat) (t : Tr d) (e : Ent),Okr d t → Sorted (flat d t) → (flat d t).length ≤ 100000000 → 1030 + d ≤ N → pcall C N 28 [vP d t,vE e] = some ([vPo d (put d t e)],[])
 | 0,N,es,e,ho,hs,hc,hN => by
   obtain ⟨n,rfl⟩ : ∃ n,N = n + 1020:=⟨N - 1020,by omega⟩
   rw [pcall_step (by rfl) (by rfl),f28_btree_page_put_eq]
   unfold f28_btree_page_put
   have ho' : (es : List Ent).length ≤ 4:=ho
   have hs' : Sorted (es : List Ent):=hs
   have h24 : pcall C (n + 1019) 24 [vP 0 es,vR e.k] = some ([vI (ltc e.k es),vB (has e.k es)],[]):=s24 (n + 8) e.k es [] ((flat 0 es).length : Int) hs' (by omega)
   have c0 : ((([] : List PV).length : Nat) : Int) = 0:=rfl
   have cz : (((0 : Int)) == (0 : Int)) = true:=rfl
   have h44:=s44 (n + 1018) (List.map entV es) (by rw [List.length_map];omega)
   cases hh : has e.k (es : List Ent) with
   | true =>
     have hlt:=ltc_has_lt hs' hh
     have hi : insL e es = es.set (ltc e.k es) e:=(set_insL hs' hh).symm
     have c1 : (0 : Int) ≤ ((ltc e.k es : Nat) : Int):=by omega
     have c2 : ((ltc e.k es : Nat) : Int) < (((List.map entV es).length : Nat) : Int):=by rw [List.length_map];omega
     have c3 : Nat.blt (ltc e.k es) (List.map entV es).length = true:=by rw [Nat.blt_eq,List.length_map];exact hlt
     have h46 : pcall C (n + 1019) 46 [.flat (.val (.sl (some 2) ((List.map entV es).set (ltc e.k es) (.agg [.sl none (bb e.k),.sl none (bb e.v)]))))] = some ([vPo 0 (put 0 es e)],[]):=by
      have:=s46 (n + 1017) (es.set (ltc e.k es) e) (by rw [List.length_set];omega)
      rw [vEs,List.map_set] at this
      rw [← hi] at this
      exact this
     simp only [isS,deref_ptr,hasT63,Bool.and_self,needB_true,cells_pg,List.headD_cons,List.tail_cons,toL_sl,esOf_zero,bsOf_zero,c0,cz,ifB_t,h24,callB_some,ok34,fvF,pvF,xsO,toI_int,toB_bool,hh,h44,ok27,c1,c2,c3,decide_true,Int.toNat_natCast,h46,ok61]
   | false =>
     have hi:=ins_insL hs' hh
     have hle:=ltc_le e.k es
     have h45 : pcall C (n + 1019) 45 [.flat (.own (some 2) (List.map entV es) []),vI ((ltc e.k es : Nat) : Int),.flat (.own (some 2) [.agg [.sl none (bb e.k),.sl none (bb e.v)]] [])] = some ([vEo (insL e es)],[]):=by
      have:=s45 (n + 1018) (List.map entV es) (ltc e.k es) (entV e) (by rw [List.length_map];omega) (by rw [List.length_map];omega)
      rw [← List.map_take,← List.map_drop,show [entV e] = List.map entV [e] from rfl,← List.map_append,← List.map_append,hi] at this
      exact this
     have hl5 : (insL e es).length ≤ 1000:=by
      have:=insL_length (e:=e) hs'
      rw [hh] at this
      simp at this
      omega
     have h46 : pcall C (n + 1019) 46 [vEs (insL e es)] = some ([vPo 0 (put 0 es e)],[]):=s46 (n + 1017) _ hl5
     simp only [isS,deref_ptr,hasT63,Bool.and_self,needB_true,cells_pg,List.headD_cons,List.tail_cons,toL_sl,esOf_zero,bsOf_zero,c0,cz,ifB_t,ifB_f,h24,callB_some,ok34,fvF,pvF,xsO,toI_int,toB_bool,hh,h44,ok27,h45,h46,ok61]
 | d + 1,N,bs,e,ho,hs,hc,hN => by
   obtain ⟨n,rfl⟩ : ∃ n,N = n + 2:=⟨N - 2,by omega⟩
   rw [pcall_step (by rfl) (by rfl),f28_btree_page_put_eq]
   unfold f28_btree_page_put
   have h43:=s43 (n + 1) d e.k bs ho (by omega)
   have h1:=ho.1
   have h4':=ho.2.1
   obtain ⟨hpf⟩ : PLift (((put (d + 1) bs e).flatMap (flat (d + 1))).length ≤ (flat (d + 1) bs).length + 1):=⟨put_flat_len ho hs⟩
   obtain ⟨A,b,C',rfl,h2,h3,h4,hb,hsb,hA,hC,hf⟩:=way_at e.k ho hs
   obtain ⟨a1,a2,a3⟩:=at_split (A:=A) (b:=b) (C:=C')
   have hcb : (flat d b).length ≤ 100000000:=by
    rw [hf,List.length_append,List.length_append] at hc;omega
   have ih:=s28 d (n + 1) b e (okp_okr hb) hsb hcb (by omega)
   have hpl:=put_len (e:=e) (okp_okr hb) hsb
   have cz : ((((A ++ b :: C').length : Nat) : Int) == (0 : Int)) = false:=list_nez _ (by simp)
   have c1 : (0 : Int) ≤ ((A.length : Nat) : Int):=by omega
   have c2 : ((A.length : Nat) : Int) < (((A ++ b :: C').length : Nat) : Int):=by rw [List.length_append,List.length_cons];omega
   have w : IntKind.wrap .i64 ((A.length : Int) + 1) = ((A.length + 1 : Nat) : Int):=wrap_succ (by
    rw [List.length_append] at h4';omega)
   rw [← h2] at h43
   have h49:=s49 n (List.map (enc d) (A ++ b :: C')) (by rw [List.length_map];omega)
   have hput : put (d + 1) (A ++ b :: C') e = halves (A ++ put d b e ++ C'):=by
    show halves _ = _
    rw [← h2,a1,a2,a3]
   have h48 : pcall C (n + 1) 48 [.flat (.own none (List.map (enc d) (A ++ b :: C')) []),vI (A.length : Int),vI ((A.length + 1 : Nat) : Int),.flat (.own none (List.map (enc d) (put d b e)) [])] = some ([vPo d (A ++ put d b e ++ C')],[]):=by
    have:=s48 n (List.map (enc d) (A ++ b :: C')) (List.map (enc d) (put d b e)) A.length (A.length + 1) (by rw [List.length_map];omega) (by omega) (by rw [List.length_map,List.length_append,List.length_cons];omega) (by rw [List.length_map];omega) (by rw [List.length_map];omega)
    rw [← List.map_take,← List.map_drop,a2,a3,← List.map_append,← List.map_append] at this
    exact this
   have hlen : (A ++ b :: C').length = A.length + 1 + C'.length:=by rw [List.length_append,List.length_cons];omega
   have h47 : pcall C (n + 1) 47 [vPs d (A ++ put d b e ++ C')] = some ([vPo (d + 1) (put (d + 1) (A ++ b :: C') e)],[]):=by
    rw [hput]
    refine s47 (n + 1) d _ ?_ ?_ (by omega)
    · rw [List.length_append,List.length_append]
      have : (A ++ b :: C').length ≤ 4:=h4'
      omega
    · rw [hput] at hpf
      rw [show (halves (A ++ put d b e ++ C')).flatMap (flat (d + 1)) = (A ++ put d b e ++ C').flatMap (flat d) from halves_flat (flat d) _] at hpf
      omega
   simp only [isS,deref_ptr,hasT63,Bool.and_self,needB_true,cells_pg,List.headD_cons,List.tail_cons,toL_sl,esOf_succ,bsOf_succ,List.length_map,cz,ifB_f,h43,callB_some,ok3,fvF,pvF,xsO,toI_int,h49,ok61,c1,c2,decide_true,Int.toNat_natCast,nthP_map (enc d) a1,hasT55e,deref_enc,ih,w,h48,h47]
end Go.Proofs.Ytnieankaikhmnaa

open Go Go.Ev Go.T14
set_option linter.unusedSimpArgs false
set_option linter.unusedVariables false
namespace Go.Proofs.Ytnieankaikhmnaa
structure BT where
 d : Nat
 t : Tr d
abbrev tBt (T : BT) : OV:=tB T.d T.t
abbrev BT.flat (T : BT) : List Ent:=Go.T14.flat T.d T.t
def putB (T : BT) (e : Ent) : BT:=match put T.d T.t e with
 | [x] => ⟨T.d,x⟩
 | l => ⟨T.d + 1,l⟩
theorem s15 (N : Nat) (T : BT) (e : Ent) (ho : Okr T.d T.t) (hs : Sorted T.flat) (hc : T.flat.length ≤ 100000000) (hk : e.k.length ≤ big) (hv : e.v.length ≤ big) (hN : 1050 + T.d ≤ N) :
 pcall C N 15 [tBt T,vR e.k,vR e.v] = some ([vB (has e.k T.flat)],[tBt (putB T e),.flat .gone,.flat .gone]):=by
 obtain ⟨d,t⟩:=T
 obtain ⟨n,rfl⟩ : ∃ n,N = n + 2:=⟨N - 2,by omega⟩
 rw [pcall_step (by rfl) (by rfl),f15_btree_Tree_Put_eq]
 unfold f15_btree_Tree_Put
 dsimp only at ho hs hc hN ⊢
 change (flat d t).length ≤ _ at hc
 have h26:=s26 (n + 1) d t e.k ho hs (by omega)
 have h27:=s27 n e.k hk
 have h27':=s27 n e.v hv
 have h28:=s28 d (n + 1) t e ho hs hc (by omega)
 rcases put_ok d t e ho hs with ⟨x,hx,_⟩ | ⟨x,y,hx,h1,h2⟩
 · have hp : putB ⟨d,t⟩ e = ⟨d,x⟩:=by unfold putB;rw [hx]
   rw [hx] at h28
   have c1 : (0 : Int) < ((List.map (enc d) [x]).length : Int):=by simp
   have c2 : Nat.blt 0 (List.map (enc d) [x]).length = true:=rfl
   have c3 : ¬ (((List.map (enc d) [x]).length : Int) > (1 : Int)):=by simp
   have h0 : [x][0]? = some x:=rfl
   simp only [h26,callB_some,ok334,okOuts25,needB_true,List.headD_cons,List.tail_cons,fvF,pvF,xsO,toB_bool,cells_box,deref_ptr,h27,h27',ok23,h28,ok61,c1,c2,c3,decide_true,decide_false,ifB_f,nthP_map (enc d) h0,hasT55e,deref_enc,hp]
 · have hp : putB ⟨d,t⟩ e = ⟨d + 1,[x,y]⟩:=by unfold putB;rw [hx]
   rw [hx] at h28
   have c1 : (0 : Int) < ((List.map (enc d) [x,y]).length : Int):=by simp
   have c2 : Nat.blt 0 (List.map (enc d) [x,y]).length = true:=rfl
   have c3 : (((List.map (enc d) [x,y]).length : Int) > (1 : Int)):=by simp
   have h0 : [x,y][0]? = some x:=rfl
   have hfl:=put_flat_len (e:=e) ho hs
   rw [hx] at hfl
   have h29:=s29 (n + 1) d [x,y] (by simp) (by omega) (by omega)
   simp only [h26,callB_some,ok334,okOuts25,needB_true,List.headD_cons,List.tail_cons,fvF,pvF,xsO,toB_bool,cells_box,deref_ptr,h27,h27',ok23,h28,ok61,c1,c2,c3,decide_true,ifB_t,nthP_map (enc d) h0,hasT55e,h29,ok55,hp]
theorem s52 (N d : Nat) (a b : Tr d) (ha : Okm d a) (hb : Okm d b) (hc : (flat d a).length + (flat d b).length ≤ 100000000) (hN : 1020 ≤ N) : pcall C N 52 [vP d a,vP d b] = some ([vPo d (join d a b)],[]):=by
 obtain ⟨n,rfl⟩ : ∃ n,N = n + 20:=⟨N - 20,by omega⟩
 rw [pcall_step (by rfl) (by rfl),f52_btree_join_eq]
 unfold f52_btree_join
 have hsa:=sz_le ha
 have hsb:=sz_le hb
 cases d with
 | zero =>
   have c0 : ((([] : List PV).length : Nat) : Int) = 0:=rfl
   have cz : (((0 : Int)) == (0 : Int)) = true:=rfl
   have h64 : pcall C (n + 19) 64 [.flat (.val (.sl none [.sl (some 2) (List.map entV a),.sl (some 2) (List.map entV b)]))] = some ([vEo (List.append (α := Ent) a b)],[]):=by
    have:=s64 (n + 9) (List.map entV a) (List.map entV b) (by rw [List.length_map,List.length_map];have:=hsa.2;have:=hsb.2;simp only [sz] at *;omega)
    rw [← List.map_append] at this
    exact this
   have h46 : pcall C (n + 19) 46 [vEs (List.append (α := Ent) a b)] = some ([vPo 0 (join 0 a b)],[]):=s46 (n + 17) _ (by
    have e : (List.append (α := Ent) a b).length = List.length (α := Ent) a + List.length (α := Ent) b:=List.length_append
    rw [e];have:=hsa.2;have:=hsb.2;simp only [sz] at *;omega)
   simp only [isS,deref_ptr,hasT63,Bool.and_self,needB_true,cells_pg,List.headD_cons,List.tail_cons,toL_sl,esOf_zero,bsOf_zero,c0,cz,ifB_t,h64,callB_some,ok27,fvF,xsO,h46,ok61]
 | succ d =>
   have cz : ((((a : List (Tr d)).length : Nat) : Int) == (0 : Int)) = false:=list_nez _ (by have:=ha.1;intro h;omega)
   have h65 : pcall C (n + 19) 65 [.flat (.val (.sl none [.sl none (List.map (enc d) a),.sl none (List.map (enc d) b)]))] = some ([vPo d (List.append (α := Tr d) a b)],[]):=by
    have:=s65 (n + 9) (List.map (enc d) a) (List.map (enc d) b) (by rw [List.length_map,List.length_map];have:=ha.2.1;have:=hb.2.1;omega)
    rw [← List.map_append] at this
    exact this
   have h47 : pcall C (n + 19) 47 [vPs d (List.append (α := Tr d) a b)] = some ([vPo (d + 1) (join (d + 1) a b)],[]):=by
    refine s47 (n + 19) d _ ?_ ?_ (by omega)
    · have e : (List.append (α := Tr d) a b).length = List.length (α := Tr d) a + List.length (α := Tr d) b:=List.length_append
      rw [e];have:=ha.2.1;have:=hb.2.1;omega
    · have e : (List.append (α := Tr d) a b).flatMap (flat d) = flat (d + 1) a ++ flat (d + 1) b:=List.flatMap_append
      rw [e,List.length_append];omega
   simp only [isS,deref_ptr,hasT63,Bool.and_self,needB_true,cells_pg,List.headD_cons,List.tail_cons,toL_sl,esOf_succ,bsOf_succ,List.length_map,cz,ifB_f,h65,callB_some,ok61,fvF,xsO,h47]
theorem delL_len {k : List UInt8} {l : List Ent} : (delL k l).length ≤ l.length:=List.length_filter_le _ _
theorem mn_nat (a b : Nat) : mnI (a : Int) (b : Int) = ((min a b : Nat) : Int):=by
 unfold mnI
 split <;> omega
end Go.Proofs.Ytnieankaikhmnaa

open Go Go.Ev Go.T14
set_option linter.unusedSimpArgs false
set_option linter.unusedVariables false
namespace Go.Proofs.Ytnieankaikhmnaa
def delB (T : BT) (key : List UInt8) : BT:=if has key T.flat = true then (match T with
 | ⟨0,es⟩ => ⟨0,wo 0 es key⟩
 | ⟨d + 1,bs⟩ => match (wo (d + 1) bs key : List (Tr d)) with
   | [b] => ⟨d,b⟩
   | l => ⟨d + 1,l⟩) else T
theorem list_none (n : Nat) (h : n ≠ 1) : (((n : Nat) : Int) == (1 : Int)) = false:=by
 have : ((n : Nat) : Int) ≠ 1:=by omega
 simpa using this
structure Inv (m : Nat) (T : BT) : Prop where
 okr : Okr T.d T.t
 sorted : Sorted T.flat
 short : Short big T.flat
 len : T.flat.length ≤ m
theorem putB_flat {T : BT} {e : Ent} (ho : Okr T.d T.t) (hs : Sorted T.flat) : (putB T e).flat = insL e T.flat ∧ Okr (putB T e).d (putB T e).t:=by
 obtain ⟨d,t⟩:=T
 have hf:=put_flat d t e ho hs
 rcases put_ok d t e ho hs with ⟨x,hx,h1,_⟩ | ⟨x,y,hx,h1,h2⟩
 · have hp : putB ⟨d,t⟩ e = ⟨d,x⟩:=by unfold putB;rw [hx]
   rw [hx] at hf
   rw [hp]
   refine ⟨?_,h1⟩
   show flat d x = insL e (flat d t)
   rw [← hf];simp
 · have hp : putB ⟨d,t⟩ e = ⟨d + 1,[x,y]⟩:=by unfold putB;rw [hx]
   rw [hx] at hf
   rw [hp]
   exact ⟨hf,by show 2 ≤ [x,y].length;simp,by show [x,y].length ≤ 4;simp,by
    intro b hb
    rcases List.mem_cons.1 hb with rfl | hb
    · exact h1
    · rw [List.mem_singleton.1 hb];exact h2⟩
theorem delB_flat {T : BT} {k : List UInt8} (ho : Okr T.d T.t) (hs : Sorted T.flat) : (delB T k).flat = delL k T.flat ∧ Okr (delB T k).d (delB T k).t:=by
 obtain ⟨d,t⟩:=T
 cases hh : has k (flat d t) with
 | false =>
   have hd : delB ⟨d,t⟩ k = ⟨d,t⟩:=by unfold delB;exact if_neg (by show ¬ has k (flat d t) = true;rw [hh];simp)
   rw [hd]
   exact ⟨(delL_none hh).symm,ho⟩
 | true =>
   obtain ⟨w1,w2,_⟩:=wo_all d t k ho hs hh
   cases d with
   | zero =>
     have hd : delB ⟨0,t⟩ k = ⟨0,wo 0 t k⟩:=by unfold delB;exact if_pos hh
     rw [hd]
     exact ⟨w1,w2⟩
   | succ d =>
     by_cases h1 : (wo (d + 1) t k : List (Tr d)).length = 1
     · obtain ⟨b,hb⟩ : ∃ b,(wo (d + 1) t k : List (Tr d)) = [b]:=List.length_eq_one_iff.1 h1
       have hd : delB ⟨d + 1,t⟩ k = ⟨d,b⟩:=by
        unfold delB
        refine (if_pos hh).trans ?_
        dsimp only
        rw [hb]
       rw [hd]
       rw [hb] at w1 w2
       refine ⟨?_,okp_okr (w2.2.2 b (by simp))⟩
       show flat d b = _
       have : flat (d + 1) [b] = flat d b:=by rw [flat_succ];simp
       rw [← this];exact w1
     · have hd : delB ⟨d + 1,t⟩ k = ⟨d + 1,wo (d + 1) t k⟩:=by
        unfold delB
        refine (if_pos hh).trans ?_
        dsimp only
        split
        · rename_i b hb;rw [hb] at h1;exact absurd rfl h1
        · rfl
       rw [hd]
       exact ⟨w1,by have:=w2.1;show 2 ≤ (wo (d + 1) t k : List (Tr d)).length;omega,w2.2.1,w2.2.2⟩
theorem Inv.put {m : Nat} {T : BT} {e : Ent} (h : Inv m T) (hk : e.k.length ≤ big) (hv : e.v.length ≤ big) : Inv (m + 1) (putB T e):=by
 obtain ⟨h1,h2⟩:=putB_flat (e:=e) h.okr h.sorted
 refine ⟨h2,by rw [h1];exact insL_sorted h.sorted,?_,?_⟩
 · rw [h1]
   intro x hx
   rcases mem_insL.1 hx with rfl | ⟨hx,_⟩
   · exact ⟨hk,hv⟩
   · exact h.short x hx
 · rw [h1,insL_length h.sorted]
   have:=h.len
   split <;> omega
theorem Inv.del {m : Nat} {T : BT} {k : List UInt8} (h : Inv m T) : Inv m (delB T k):=by
 obtain ⟨h1,h2⟩:=delB_flat (k:=k) h.okr h.sorted
 refine ⟨h2,by rw [h1];exact delL_sorted h.sorted,?_,?_⟩
 · rw [h1]
   exact fun x hx => h.short x (mem_delL.1 hx).1
 · rw [h1]
   exact Nat.le_trans delL_len h.len
theorem Inv.mono {m n : Nat} {T : BT} (h : Inv m T) (hmn : m ≤ n) : Inv n T:=⟨h.okr,h.sorted,h.short,Nat.le_trans h.len hmn⟩
theorem deep_of {m : Nat} {T : BT} (h : Inv m T) (hm : m ≤ 1000) : T.d ≤ 10:=by
 obtain ⟨d,t⟩:=T
 cases d with
 | zero => exact Nat.zero_le _
 | succ d =>
   have h1:=(okp_count (d + 1) t h.okr).1
   have h2 : (flat (d + 1) t).length ≤ m:=h.len
   show d + 1 ≤ 10
   rcases Nat.lt_or_ge 10 (d + 1) with hd | hd
   · have : 2 ^ 10 ≤ 2 ^ (d + 1 + 1):=Nat.pow_le_pow_right (by decide) (by omega)
     have e : (2 : Nat) ^ 10 = 1024:=by decide
     omega
   · exact hd
theorem Inv.good {m : Nat} {T : BT} (h : Inv m T) (hm : m ≤ 1000) : T14.Good T.d T.t:=⟨h.sorted,h.okr,h.short,deep_of h hm⟩
theorem s10 (n : Nat) {m : Nat} {T : BT} (s : Sp) (h : Inv m T) (hm : m ≤ 1000) : pcall C (n + 1) 10 [tBt T,.flat (.val (.agg [.sl none (bb s.f),.sl none (bb s.t),.bool s.e]))] = some ([vEs (rangeL s T.flat)],[tBt T]):=by
 rw [pcall_prim (p:=T14.primRange) (by rfl)]
 have:=primRange_eq s (h.good hm)
 rw [enc_eq] at this
 exact this
theorem s11 (n : Nat) (s : Sp) (k : List UInt8) : pcall C (n + 1) 11 [.flat (.val (.agg [.sl none (bb s.f),.sl none (bb s.t),.bool s.e])),vR k] = some ([vB (inSp s k)],[]):=by
 rw [pcall_step (by rfl) (by rfl),f11_vestryref14_In_eq]
 unfold f11_vestryref14_In inSp
 simp only [bb_isByte,bb_u8,needB_true]
 cases Op.bytesLess k s.f <;> cases s.e <;> simp only [Bool.not_true,Bool.not_false,ifB_t,ifB_f,Bool.true_and,Bool.false_and,Bool.true_or,Bool.false_or]
theorem ent_ext {a b : Ent} : a = b ↔ a.k = b.k ∧ a.v = b.v:=by
 cases a;cases b;simp
theorem same_loop (rec : Rec) (n : Nat) (a b : List Ent) (hab : a.length = b.length) (hl : a.length ≤ 1000000) : ∀ (m i : Nat),i ≤ a.length → a.length - i < m →
 f12_vestryref04_Same.l0 rec n m (a.map entV) (b.map entV) (i : Int) = some ([vB (decide (a.drop i = b.drop i))],[])
 | 0,i,_,h => by omega
 | m + 1,i,hi,h => by
   show f12_vestryref04_Same.l0.step _ _ (f12_vestryref04_Same.l0 _ _ m) _ _ _ = _
   unfold f12_vestryref04_Same.l0.step
   by_cases hlt : i < a.length
   · have hlt' : i < b.length:=by omega
     have hx : a[i]? = some a[i]:=List.getElem?_eq_getElem hlt
     have hy : b[i]? = some b[i]:=List.getElem?_eq_getElem hlt'
     have hda : a.drop i = a[i] :: a.drop (i + 1):=List.drop_eq_getElem_cons hlt
     have hdb : b.drop i = b[i] :: b.drop (i + 1):=List.drop_eq_getElem_cons hlt'
     rw [hda,hdb]
     generalize a[i] = x at hx hda ⊢
     generalize b[i] = y at hy hdb ⊢
     have c1 : (i : Int) < (((a.map entV).length : Nat) : Int):=by rw [List.length_map];omega
     have c2 : (0 : Int) ≤ (i : Int):=by omega
     have c3 : (i : Int) < (((b.map entV).length : Nat) : Int):=by rw [List.length_map];omega
     have w2 : IntKind.wrap .i64 ((i : Int) + 1) = ((i + 1 : Nat) : Int):=wrap_succ (by omega)
     simp only [c1,c2,c3,decide_true,ifB_t,needB_true,Int.toNat_natCast,nthP_map entV hx,nthP_map entV hy,hasT33e,cells_ent,List.headD_cons,List.tail_cons,toL_sl,bb_isByte,bb_u8,w2]
     by_cases hk : x.k = y.k
     · by_cases hv : x.v = y.v
       · have e : x = y:=ent_ext.2 ⟨hk,hv⟩
         subst e
         simp only [beq_self_eq_true,Bool.not_true,ifB_f]
         rw [same_loop rec n a b hab hl m (i + 1) hlt (by omega)]
         simp
       · have e : ¬ x = y:=fun e => hv (by rw [e])
         have hv' : (x.v == y.v) = false:=by simpa using hv
         have hk' : (x.k == y.k) = true:=by simpa using hk
         have hne : ¬ (x :: List.drop (i + 1) a = y :: List.drop (i + 1) b):=fun q => e (List.cons.inj q).1
         simp only [hk',hv',Bool.not_true,Bool.not_false,ifB_f,ifB_t,hne,decide_false]
     · have e : ¬ x = y:=fun e => hk (by rw [e])
       have hk' : (x.k == y.k) = false:=by simpa using hk
       have hne : ¬ (x :: List.drop (i + 1) a = y :: List.drop (i + 1) b):=fun q => e (List.cons.inj q).1
       simp only [hk',Bool.not_false,ifB_t,hne,decide_false]
   · have c1 : ¬ ((i : Int) < (((a.map entV).length : Nat) : Int)):=by rw [List.length_map];omega
     have e1 : a.drop i = []:=List.drop_eq_nil_iff.2 (by omega)
     have e2 : b.drop i = []:=List.drop_eq_nil_iff.2 (by omega)
     simp only [c1,decide_false,ifB_f,e1,e2,decide_true]
theorem s12 (N : Nat) (a b : List Ent) (hl : a.length ≤ 1000000) (hN : a.length + 5 ≤ N) : pcall C N 12 [vEs a,vEs b] = some ([vB (decide (a = b))],[]):=by
 obtain ⟨n,rfl⟩ : ∃ n,N = n + 1:=⟨N - 1,by omega⟩
 rw [pcall_step (by rfl) (by rfl),f12_vestryref04_Same_eq]
 unfold f12_vestryref04_Same f12_vestryref04_Same.pre
 by_cases hab : a.length = b.length
 · have c : ((((a.map entV).length : Nat) : Int) != (((b.map entV).length : Nat) : Int)) = false:=by simp [hab]
   have:=same_loop (pcall C n) n a b hab hl n 0 (Nat.zero_le _) (by omega)
   rw [List.drop_zero,List.drop_zero,show ((0 : Nat) : Int) = (0 : Int) from rfl] at this
   simp only [c,ifB_f,this]
 · have c : ((((a.map entV).length : Nat) : Int) != (((b.map entV).length : Nat) : Int)) = true:=by
    simp only [List.length_map,bne_iff_ne];omega
   have hne : ¬ a = b:=fun e => hab (by rw [e])
   simp only [c,ifB_t,hne,decide_false]
end Go.Proofs.Ytnieankaikhmnaa

open Go Go.Ev Go.T14
set_option linter.unusedSimpArgs false
set_option linter.unusedVariables false
namespace Go.Proofs.Ytnieankaikhmnaa
structure AN where
 d : Int
 k : List UInt8
 v : List UInt8
 s : Sp
def actV (a : AN) : PV := .agg [.int .i64 a.d,.sl none (bb a.k),.sl none (bb a.v),.sl none (bb a.s.f),.sl none (bb a.s.t),.bool a.s.e]
def ShortA (l : List AN) : Prop := ∀ a ∈ l,a.k.length ≤ big ∧ a.v.length ≤ big
abbrev vAs (l : List AN) : OV := .flat (.val (.sl (some 6) (l.map actV)))
theorem hasT46 (a : AN) : hasT Try.prog 46 (actV a) = true:=by kernel_rfl
theorem cells_act (a : AN) : PV.cells (actV a) = [.int .i64 a.d,.sl none (bb a.k),.sl none (bb a.v),.sl none (bb a.s.f),.sl none (bb a.s.t),.bool a.s.e]:=rfl
theorem okOuts255 (v : PV) : okOuts Try.prog [25,23,23] [.io (.b [false]),.ro,.ro] [.cont .box [.val (.ptr (some 3) v)],.flat .gone,.flat .gone] = true:=by kernel_rfl
theorem okOuts1 (v : PV) : okOuts Try.prog [25] [.io (.b [false])] [.cont .box [.val (.ptr (some 3) v)]] = true:=by kernel_rfl
theorem okOuts30 (v : PV) : okOuts Try.prog [25,30] [.io (.b [false]),.ro] [.cont .box [.val (.ptr (some 3) v)]] = true:=by kernel_rfl
theorem ok25b (v : PV) : okOs Try.prog [25] [.b [false]] [.cont .box [.val (.ptr (some 3) v)]] = true:=by kernel_rfl
theorem ok234 (l : List UInt8) (b : Bool) : okOs Try.prog [23,4] [.o,.v] [vO l,vB b] = true:=by
 show (okO Try.prog 23 .o (vO l) && true) = true
 rw [okO23];rfl
theorem ok27v (l : List PV) : okOs Try.prog [27] [] [.flat (.val (.sl (some 2) l))] = true:=by kernel_rfl
theorem inv0 : Inv 0 ⟨0,[]⟩:=⟨by show 0 ≤ 4;omega,List.Pairwise.nil,fun e he => (by cases he),Nat.le_refl _⟩
theorem s15' {N m : Nat} {T : BT} {e : Ent} (h : Inv m T) (hm : m ≤ 1000) (hk : e.k.length ≤ big) (hv : e.v.length ≤ big) (hN : 1100 ≤ N) : pcall C N 15 [tBt T,vR e.k,vR e.v] = some ([vB (has e.k T.flat)],[tBt (putB T e),.flat .gone,.flat .gone]) :=
 s15 N T e h.okr h.sorted (by have:=h.len;omega) hk hv (by have:=deep_of h hm;omega)
theorem s13' {N m : Nat} {T : BT} (k : List UInt8) (h : Inv m T) (hm : m ≤ 1000) (hN : 1100 ≤ N) : pcall C N 13 [tBt T,vR k] = some ([vO (fnd k T.flat).v,vB (has k T.flat)],[tBt T,.flat .gone]) :=
 s13 N T.d T.t k h.okr h.sorted h.short (by have:=deep_of h hm;omega)
theorem s14' (n : Nat) (T : BT) : pcall C (n + 1) 14 [tBt T] = some ([vI (T.flat.length : Int)],[tBt T]):=s14 n T.d T.t
theorem s22' {N m : Nat} {T : BT} (h : Inv m T) (hm : m ≤ 1000) (hN : 1100 ≤ N) : pcall C N 22 [tBt T] = some ([vI ((T.d + 1 : Nat) : Int)],[tBt T]) :=
 s22 N T.d T.t h.okr (by have:=deep_of h hm;omega) (by have:=deep_of h hm;omega)
theorem s18' (n : Nat) (T : BT) : pcall C (n + 1) 18 [tBt T] = some ([tBt T],[tBt T]):=s18 n T.d T.t
def stepB (T : BT) (a : AN) : BT :=
 if a.d = 0 then putB T ⟨a.k,a.v⟩ else if a.d = 1 then delB T a.k else T
theorem Inv.step {m : Nat} {T : BT} {a : AN} (h : Inv m T) (hk : a.k.length ≤ big) (hv : a.v.length ≤ big) : Inv (m + 1) (stepB T a):=by
 unfold stepB
 split
 · exact h.put hk hv
 · split
   · exact h.del.mono (by omega)
   · exact h.mono (by omega)
def smallT : Nat → BT
 | 0 => ⟨0,[]⟩
 | i + 1 => putB (smallT i) ⟨[UInt8.ofNat (97 + i)],[118]⟩
theorem small_inv : ∀ i,Inv i (smallT i)
 | 0 => inv0
 | i + 1 => (small_inv i).put (by show 1 ≤ big;decide) (by show 1 ≤ big;decide)
theorem small_has : ∀ i,i < 5 → has [UInt8.ofNat (97 + i)] (smallT i).flat = false
 | 0,_ => by decide
 | 1,_ => by decide
 | 2,_ => by decide
 | 3,_ => by decide
 | 4,_ => by decide
 | i + 5,h => by omega
theorem small_key : ∀ i,i < 5 → [PV.int .u8 (IntKind.wrap .u8 (IntKind.wrap .i64 ((97 : Int) + ((i : Nat) : Int))))] = bb [UInt8.ofNat (97 + i)]
 | 0,_ => by kernel_rfl
 | 1,_ => by kernel_rfl
 | 2,_ => by kernel_rfl
 | 3,_ => by kernel_rfl
 | 4,_ => by kernel_rfl
 | i + 5,h => by omega
theorem small_step (N n m i : Nat) (hi : i < 5) (hN : 1100 ≤ N) :
 f8_vestrylaw14_small.l0 (pcall C N) n (m + 1) (pgOf (smallT i).d (smallT i).t) (i : Int) = f8_vestrylaw14_small.l0 (pcall C N) n m (pgOf (smallT (i + 1)).d (smallT (i + 1)).t) ((i + 1 : Nat) : Int):=by
 show f8_vestrylaw14_small.l0.step _ _ (f8_vestrylaw14_small.l0 _ _ m) _ _ = _
 unfold f8_vestrylaw14_small.l0.step
 have h15:=s15' (N:=N) (e:=⟨[UInt8.ofNat (97 + i)],[118]⟩) (small_inv i) (by omega) (by show 1 ≤ big;decide) (by show 1 ≤ big;decide) hN
 rw [small_has i hi] at h15
 have e118 : [PV.int .u8 (118 : Int)] = bb [118]:=by kernel_rfl
 have b : Nat.blt 0 (bb [118]).length = true:=rfl
 have c1 : ((i : Int) < (5 : Int)):=by omega
 have w2 : IntKind.wrap .i64 ((i : Int) + 1) = ((i + 1 : Nat) : Int):=wrap_succ (by omega)
 simp only [c1,decide_true,ifB_t,e118,b,needB_true,small_key i hi,h15,callB_some,ok4,okOuts255,List.headD_cons,fvF,pvF,toB_bool,ifB_f,cells_box,deref_ptr,w2]
 rfl
theorem small5 : (smallT 5).flat = [⟨[97],[118]⟩,⟨[98],[118]⟩,⟨[99],[118]⟩,⟨[100],[118]⟩,⟨[101],[118]⟩] ∧ (smallT 5).d = 1:=⟨by decide +kernel,by decide +kernel⟩
theorem s8 (N : Nat) (hN : 1200 ≤ N) : pcall C N 8 [] = some ([vB true],[]):=by
 obtain ⟨n,rfl⟩ : ∃ n,N = n + 20:=⟨N - 20,by omega⟩
 rw [pcall_step (by rfl) (by rfl),f8_vestrylaw14_small_eq]
 unfold f8_vestrylaw14_small f8_vestrylaw14_small.pre
 have hst:=fun m i hi => small_step (n + 19) (n + 19) m i hi (by omega)
 have e0 : ((0 : Nat) : Int) = (0 : Int):=rfl
 have h0:=hst (n + 18) 0 (by omega)
 rw [e0] at h0
 have hp : pgOf (smallT 0).d (smallT 0).t = pgOf 0 []:=rfl
 rw [hp] at h0
 simp only [s17,callB_some,ok25b,needB_true,List.headD_cons,cells_box,pvF,deref_ptr]
 rw [h0,hst (n + 17) 1 (by omega),hst (n + 16) 2 (by omega),hst (n + 15) 3 (by omega),hst (n + 14) 4 (by omega)]
 show f8_vestrylaw14_small.l0.step _ _ (f8_vestrylaw14_small.l0 _ _ (n + 13)) _ _ = _
 unfold f8_vestrylaw14_small.l0.step
 have hv:=small_inv 5
 obtain ⟨hf,hd⟩:=small5
 have c1 : ¬ (((4 + 1 : Nat) : Int) < (5 : Int)):=by omega
 have e98 : [PV.int .u8 (98 : Int)] = bb [98]:=by kernel_rfl
 have e99 : [PV.int .u8 (99 : Int)] = bb [99]:=by kernel_rfl
 have e100 : [PV.int .u8 (100 : Int)] = bb [100]:=by kernel_rfl
 have b1 : Nat.blt 0 (bb [98]).length = true:=rfl
 have b2 : Nat.blt 0 (bb [99]).length = true:=rfl
 have b3 : Nat.blt 0 (bb [100]).length = true:=rfl
 have h10:=s10 (n + 18) ⟨[98],[100],true⟩ hv (by omega)
 have h13:=s13' (N:=n + 19) [99] hv (by omega) (by omega)
 have h14:=s14' (n + 18) (smallT 5)
 have h22:=s22' (N:=n + 19) hv (by omega) (by omega)
 rw [hf] at h10 h13 h14
 rw [hd] at h22
 have hr : rangeL ⟨[98],[100],true⟩ [⟨[97],[118]⟩,⟨[98],[118]⟩,⟨[99],[118]⟩,⟨[100],[118]⟩,⟨[101],[118]⟩] = [⟨[98],[118]⟩,⟨[99],[118]⟩]:=by decide +kernel
 have hg : fnd [99] [⟨[97],[118]⟩,⟨[98],[118]⟩,⟨[99],[118]⟩,⟨[100],[118]⟩,⟨[101],[118]⟩] = ⟨[99],[118]⟩:=by decide +kernel
 have hh : has [99] [⟨[97],[118]⟩,⟨[98],[118]⟩,⟨[99],[118]⟩,⟨[100],[118]⟩,⟨[101],[118]⟩] = true:=by decide +kernel
 have h5 : ((([⟨[97],[118]⟩,⟨[98],[118]⟩,⟨[99],[118]⟩,⟨[100],[118]⟩,⟨[101],[118]⟩] : List Ent).length : Int) == (5 : Int)) = true:=rfl
 have h2 : (((1 + 1 : Nat) : Int) == (2 : Int)) = true:=rfl
 rw [hr] at h10
 rw [hg,hh] at h13
 have l2 : ((((List.map entV [⟨[98],[118]⟩,⟨[99],[118]⟩]).length : Nat) : Int) == (2 : Int)) = true:=rfl
 have l3 : (0 : Int) < (((List.map entV [⟨[98],[118]⟩,⟨[99],[118]⟩]).length : Nat) : Int):=by simp
 have hx : ([⟨[98],[118]⟩,⟨[99],[118]⟩] : List Ent)[0]? = some ⟨[98],[118]⟩:=rfl
 have q1 : (([98] : List UInt8) == ([98] : List UInt8)) = true:=rfl
 have q2 : (([118] : List UInt8) == ([118] : List UInt8)) = true:=rfl
 simp only [c1,decide_false,ifB_f,e98,e99,e100,b1,b2,b3,needB_true,h10,callB_some,ok27v,okOuts30,List.headD_cons,List.tail_cons,cells_box,pvF,fvF,deref_ptr,h13,ok234,okOuts25,h14,ok3,okOuts1,toI_int,h5,ifB_t,h22,h2,toL_sl,l2,l3,decide_true,nthP_map entV hx,hasT33e,cells_ent,bb_isByte,bb_u8,q1,q2,toB_bool,xsO]
end Go.Proofs.Ytnieankaikhmnaa

