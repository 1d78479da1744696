/- An evaluator of the model's code over pure data, and why it is right: part 7. -/
import Derived.Test.YtnieankaikhmnaaEvf
import Derived.Laws.Append
import Derived.Laws.AppendOwn
import Derived.Lib.Overlaps
import Derived.Laws.Externs
import Derived.Lib.AppendZeros

set_option linter.unusedVariables false

set_option linter.unusedSimpArgs false

set_option linter.unusedSectionVars false

namespace Go.Ev
section
variable {P : Program}
structure RowOut (w w' : World) (has : Nat → Prop) (sz N : Nat) (L : List Value) (v : Value) : Prop where
 os : w'.os = w.os
 tape : w'.tape = w.tape
 output : w'.output = w.output
 size : w.heap.size ≤ w'.heap.size
 same : ∀ k,k < w.heap.size → ¬ has k → w'.heap[k]? = w.heap[k]?
 row : (N = 0 ∧ ∃ A,v = .slice A 0 0) ∨ ∃ (g c : Nat) (cur : Array Value) (e : TypeId) (fr : Nat × Nat),v = .slice (some ⟨g,0,none⟩) N c ∧ (has g ∨ w.heap.size ≤ g) ∧ w'.heap[g]? = some (.cells cur e fr) ∧ fr.1 = fr.2 ∧
  c * sz ≤ cur.size ∧ N ≤ c ∧ c ≤ 9223372036854775807 ∧ cur.toList.take (N * sz) = L
theorem row_spec {f : FuncId} {os : List OV} {sh : Option Nat} {zs : List PV}
 (h : ∀ (w : World) (Oc : Nat → Prop) (us : List Value) (ab : Blk),us.length = os.length → (∀ k,Oc k → k < w.heap.size) → SRel w Oc (startSlots 0 os) (fun t => us.getD t Go.undef) ab →
   Calls P f us.toArray w fun e w' => ∃ v L,e = .returned v ∧ RowOut w w' ab.has (shN sh) zs.length L v ∧ L.length = zs.length * shN sh ∧ RowIn w (ab.off Oc) sh zs L.toArray) :
 CallSpec P f os [.flat (.own sh zs [])] []:=by
 intro w Oc us ab hlen hOc hS
 refine (h w Oc us ab hlen hOc hS).mono fun e w' ⟨v,L,he,hr,hL,hin⟩ => ?_
 have hab : ∀ k,ab.has k → ¬ Oc k ∧ k < w.heap.size:=fun k ⟨t,c,q⟩ => hS.out t c k q
 have hG : Grow w w' ab:=⟨hr.os,hr.tape,hr.output,hr.size,fun k hk hno => hr.same k hk hno⟩
 have get1 : ∀ t,t ≠ us.length → (startSlots us.length [OV.flat (.own sh zs [])]).get t = .dead:=by
  intro t ht
  rw [get_start]
  split
  · rename_i hle
    cases hk : t - us.length with
    | zero => omega
    | succ k => rfl
  · rfl
 have get2 : (startSlots us.length [OV.flat (.own sh zs [])]).get us.length = .home (.flat (.own sh zs [])):=by
  rw [get_start,if_pos (Nat.le_refl _),Nat.sub_self]
  rfl
 rcases hr.row with ⟨h0,A,rfl⟩ | ⟨g,c,cur,ety,fr,rfl,hg,hh,ht,hs,hnc,hcL,htk⟩
 · have hz : zs = []:=List.eq_nil_of_length_eq_zero h0
   subst hz
   refine ⟨_,he,hG,⟨⟨us.length,startSlots us.length [.flat (.own sh [] [])],fun _ => .slice A 0 0,fun _ _ => none,⟨fun t => ?_,fun t c t' c' k q => (by cases q),fun t c k q => (by cases q)⟩,fun t c k q => (by cases q),Nat.le_refl _,fun i o hi => (by simp at hi),fun j o hj => ?_,?_⟩⟩⟩
   · by_cases htl : t = us.length
     · subst htl
       rw [get2]
       exact .flat _ _ _ (.ownE sh A)
     · rw [get1 t htl]
       exact fun _ => rfl
   · cases j with
     | zero => simp at hj;subst hj;exact get2
     | succ j => simp at hj
   · rfl
 · have hgl : g < w'.heap.size:=(Array.getElem?_eq_some_iff.1 hh).1
   have hob : ∀ (t : Nat) (c : Option Nat) (k : Nat),(if t = us.length ∧ c = none then some g else none) = some k → t = us.length ∧ c = none ∧ k = g:=by
    intro t c k q
    split at q
    · rename_i h1
      cases q
      exact ⟨h1.1,h1.2,rfl⟩
    · cases q
   have hmove : ∀ (O' : Nat → Prop),(∀ k,O' k → k = g ∨ Oc k) → ∀ (p : PV) (u : Value),RepV w (ab.off Oc) p u → RepV w' O' p u:=by
    intro O' hO' p u hp
    refine hp.move fun k hk hno => ⟨hr.same k hk fun q => hno (.inl q),fun q => ?_⟩
    rcases hO' k q with rfl | q
    · rcases hg with q' | q'
      · exact hno (.inl q')
      · omega
    · exact hno (.inr q)
   refine ⟨_,he,hG,⟨⟨us.length,startSlots us.length [.flat (.own sh zs [])],fun _ => .slice (some ⟨g,0,none⟩) zs.length c,fun t c => if t = us.length ∧ c = none then some g else none,⟨fun t => ?_,fun t c t' c' k q q' => ?_,fun t c k q => ?_⟩,fun t c k q => ?_,Nat.le_refl _,fun i o hi => (by simp at hi),fun j o hj => ?_,?_⟩⟩⟩
   · by_cases htl : t = us.length
     · subst htl
       rw [get2]
       show ORep w' _ (.flat (.own sh zs [])) _ (if us.length = us.length ∧ (none : Option Nat) = none then some g else none) (fun j => if us.length = us.length ∧ some j = none then some g else none)
       have e1 : (if us.length = us.length ∧ (none : Option Nat) = none then some g else none) = some g:=by simp
       have e2 : (fun j : Nat => if us.length = us.length ∧ some j = none then some g else none) = fun _ => none:=by funext j;simp
       rw [e1,e2]
       have hget : ∀ (i : Nat) (x : PV) (j : Nat) (y : PV),zs[i]? = some x → x.cells[j]? = some y → cur[i * shN sh + j]? = L[i * shN sh + j]?:=by
        intro i x j y hi hj
        have hj' : j < shN sh:=by
         rw [← cells_length (hin.fits i x hi)]
         exact (List.getElem?_eq_some_iff.1 hj).1
        have hi' : i < zs.length:=(List.getElem?_eq_some_iff.1 hi).1
        have hlt : i * shN sh + j < zs.length * shN sh:=by
         have : (i + 1) * shN sh ≤ zs.length * shN sh:=Nat.mul_le_mul_right _ hi'
         rw [Nat.add_mul,Nat.one_mul] at this
         omega
        rw [← htk,List.getElem?_take,if_pos hlt]
        simp
       refine .flat _ _ _ (.own sh zs [] g c cur ety fr (fun i j => cur.getD (i * shN sh + j) Go.undef) ⟨hh,ht,hs,hnc,hin.fits,hin.cell,fun i x j y hi hj => ?_,fun i x j y hi hj => ?_,fun j y hj => by simp at hj,hcL,by simpa using hnc⟩)
       all_goals
        obtain ⟨u,hu,hrep⟩:=hin.rep i x j y hi hj
        have hc:=hget i x j y hi hj
        simp only [List.getElem?_toArray] at hu
        rw [hu] at hc
       · simp [Array.getD_eq_getD_getElem?,hc]
       · simp only [Array.getD_eq_getD_getElem?,hc,Option.getD_some]
         refine hmove _ (fun k q => ?_) _ _ hrep
         rcases q with ⟨t,c',q⟩ | q
         · exact .inl (hob _ _ _ q).2.2
         · exact .inr q
     · rw [get1 t htl]
       intro c
       simp [htl]
   · obtain ⟨a1,a2,_⟩:=hob _ _ _ q
     obtain ⟨b1,b2,_⟩:=hob _ _ _ q'
     exact ⟨a1.trans b1.symm,a2.trans b2.symm⟩
   · obtain ⟨_,_,rfl⟩:=hob _ _ _ q
     refine ⟨fun ho => ?_,hgl⟩
     rcases hg with q' | q'
     · exact (hab _ q').1 ho
     · exact absurd (hOc _ ho) (by omega)
   · obtain ⟨_,_,rfl⟩:=hob _ _ _ q
     exact hg
   · cases j with
     | zero => simp at hj;subst hj;exact get2
     | succ j => simp at hj
   · rfl
theorem start_val {w : World} {Oc : Nat → Prop} {os : List OV} {us : List Value} {ab : Blk} (h : SRel w Oc (startSlots 0 os) (fun t => us.getD t Go.undef) ab) {i : Nat} {v : PV} (hi : os[i]? = some (.flat (.val v))) :
 RepV w (ab.off Oc) v (us.getD i Go.undef):=by
 have hr:=h.rep i
 rw [get_start,if_pos (Nat.zero_le _),Nat.sub_zero,hi] at hr
 exact (ORep.flat_inv hr).1.val_inv.1
theorem RepV.rowCells {w : World} {O : Nat → Prop} {sh : Option Nat} {xs : List PV} {u : Value} (h : RepV w O (.sl sh xs) u) :
 ∃ (A : Option Addr) (c : Nat) (L : List Value),u = .slice A xs.length c ∧ xs.length ≤ c ∧ (A = none → c = 0) ∧ L.length = xs.length * shN sh ∧ RowIn w O sh xs L.toArray ∧ (∀ a,A = some a → ∀ j z,L[j]? = some z → w.cell? (a.add j) = some z):=by
 cases h with
 | slNil sh => exact ⟨none,0,[],rfl,Nat.le_refl _,fun _ => rfl,by simp,⟨fun i x hi => by simp at hi,fun i x j y hi => by simp at hi,fun i x j y hi => by simp at hi⟩,fun a h => by cases h⟩
 | sl sh xs a c us hc hf hk ho hm hr =>
   have hlen : ∀ x ∈ xs,x.cells.length = shN sh:=fun x hx => by
    obtain ⟨i,hi⟩:=List.getElem?_of_mem hx
    exact cells_length (hf i x hi)
   let L : List Value:=(List.range (xs.length * shN sh)).map fun q => us (q / shN sh) (q % shN sh)
   have hL : ∀ (i : Nat) (x : PV) (j : Nat) (y : PV),xs[i]? = some x → x.cells[j]? = some y → L[i * shN sh + j]? = some (us i j):=by
    intro i x j y hi hj
    have hj' : j < shN sh:=by rw [← cells_length (hf i x hi)];exact (List.getElem?_eq_some_iff.1 hj).1
    have hi' : i < xs.length:=(List.getElem?_eq_some_iff.1 hi).1
    have hlt : i * shN sh + j < xs.length * shN sh:=by
     have : (i + 1) * shN sh ≤ xs.length * shN sh:=Nat.mul_le_mul_right _ hi'
     rw [Nat.add_mul,Nat.one_mul] at this
     omega
    have e1 : (i * shN sh + j) / shN sh = i:=by rw [Nat.mul_comm,Nat.mul_add_div (by omega),Nat.div_eq_of_lt hj',Nat.add_zero]
    have e2 : (i * shN sh + j) % shN sh = j:=by rw [Nat.mul_comm,Nat.mul_add_mod,Nat.mod_eq_of_lt hj']
    simp only [L]
    rw [List.getElem?_map,List.getElem?_range hlt]
    simp only [Option.map_some,e1,e2]
   refine ⟨some a,c,L,rfl,hc,fun e => (by cases e),by simp [L],⟨hf,hk,fun i x j y hi hj => ⟨us i j,by simpa using hL i x j y hi hj,hr i x j y hi hj⟩⟩,fun a' ha j z hj => ?_⟩
   cases ha
   have hlt : j < xs.length * shN sh:=by
    have:=(List.getElem?_eq_some_iff.1 hj).1
    simpa [L] using this
   have hpos : 0 < shN sh:=by
    rcases Nat.eq_zero_or_pos (shN sh) with h0 | h0
    · rw [h0] at hlt;omega
    · exact h0
   have hi' : j / shN sh < xs.length:=by rw [Nat.div_lt_iff_lt_mul hpos];exact hlt
   have hj' : j % shN sh < shN sh:=Nat.mod_lt _ hpos
   have hx : xs[j / shN sh]? = some xs[j / shN sh]:=List.getElem?_eq_getElem hi'
   have hy : (xs[j / shN sh]).cells[j % shN sh]? = some ((xs[j / shN sh]).cells[j % shN sh]'(by rw [cells_length (hf _ _ hx)];exact hj')):=List.getElem?_eq_getElem _
   have h1:=hm _ _ _ _ hx hy
   have e : j / shN sh * shN sh + j % shN sh = j:=by rw [Nat.mul_comm];exact Nat.div_add_mod j (shN sh)
   rw [e] at h1
   have h2:=hL _ _ _ _ hx hy
   rw [e,hj] at h2
   cases h2
   exact h1
theorem RowIn.app {w : World} {O : Nat → Prop} {sh : Option Nat} {xs ys : List PV} {L M : List Value} (h1 : RowIn w O sh xs L.toArray) (h2 : RowIn w O sh ys M.toArray) (hl : L.length = xs.length * shN sh) : RowIn w O sh (xs ++ ys) (L ++ M).toArray:=by
 refine ⟨fun i x hi => ?_,fun i x j y hi hj => ?_,fun i x j y hi hj => ?_⟩
 all_goals
  rcases Nat.lt_or_ge i xs.length with hlt | hge
  · rw [List.getElem?_append_left hlt] at hi
    first | exact h1.fits i x hi | exact h1.cell i x j y hi hj | (
     obtain ⟨z,hz,hr⟩:=h1.rep i x j y hi hj
     refine ⟨z,?_,hr⟩
     simp only [List.getElem?_toArray] at hz ⊢
     rw [List.getElem?_append_left (List.getElem?_eq_some_iff.1 hz).1]
     exact hz)
  · rw [List.getElem?_append_right hge] at hi
    first | exact h2.fits _ x hi | exact h2.cell _ x j y hi hj | (
     obtain ⟨z,hz,hr⟩:=h2.rep _ x j y hi hj
     refine ⟨z,?_,hr⟩
     simp only [List.getElem?_toArray] at hz ⊢
     have e : i * shN sh + j = L.length + ((i - xs.length) * shN sh + j):=by
      rw [hl,← Nat.add_assoc,← Nat.add_mul]
      congr 2
      omega
     rw [e,List.getElem?_append_right (by omega),Nat.add_sub_cancel_left]
     exact hz)
theorem RowIn.takeL {w : World} {O : Nat → Prop} {sh : Option Nat} {xs : List PV} {L : List Value} (h : RowIn w O sh xs L.toArray) (k : Nat) : RowIn w O sh (xs.take k) (L.take (k * shN sh)).toArray:=by
 refine ⟨fun i x hi => ?_,fun i x j y hi hj => ?_,fun i x j y hi hj => ?_⟩
 all_goals
  rw [List.getElem?_take] at hi
  split at hi
  rotate_left
  · cases hi
  rename_i hik
 · exact h.fits i x hi
 · exact h.cell i x j y hi hj
 · obtain ⟨z,hz,hr⟩:=h.rep i x j y hi hj
   refine ⟨z,?_,hr⟩
   have hj' : j < shN sh:=by rw [← cells_length (h.fits i x hi)];exact (List.getElem?_eq_some_iff.1 hj).1
   simp only [List.getElem?_toArray] at hz ⊢
   rw [List.getElem?_take,if_pos]
   · exact hz
   · have : (i + 1) * shN sh ≤ k * shN sh:=Nat.mul_le_mul_right _ hik
     rw [Nat.add_mul,Nat.one_mul] at this
     omega
theorem RowIn.dropL {w : World} {O : Nat → Prop} {sh : Option Nat} {xs : List PV} {L : List Value} (h : RowIn w O sh xs L.toArray) (k : Nat) : RowIn w O sh (xs.drop k) (L.drop (k * shN sh)).toArray:=by
 refine ⟨fun i x hi => ?_,fun i x j y hi hj => ?_,fun i x j y hi hj => ?_⟩
 all_goals rw [List.getElem?_drop] at hi
 · exact h.fits _ x hi
 · exact h.cell _ x j y hi hj
 · obtain ⟨z,hz,hr⟩:=h.rep _ x j y hi hj
   refine ⟨z,?_,hr⟩
   simp only [List.getElem?_toArray] at hz ⊢
   rw [List.getElem?_drop,← Nat.add_assoc,← Nat.add_mul]
   exact hz
end
end Go.Ev

namespace Go.Ev
section
variable {P : Program}
structure Chg (w w' : World) (g : Nat) (L : List Value) (e : TypeId) (fr : Nat × Nat) : Prop where
 os : w'.os = w.os
 tape : w'.tape = w.tape
 output : w'.output = w.output
 size : w'.heap.size = w.heap.size
 same : ∀ k,k ≠ g → w'.heap[k]? = w.heap[k]?
 heap : w'.heap[g]? = some (.cells L.toArray e fr)
theorem Chg.trans {w w1 w2 : World} {g : Nat} {L M : List Value} {e : TypeId} {fr : Nat × Nat} (h : Chg w w1 g L e fr) (h' : Chg w1 w2 g M e fr) : Chg w w2 g M e fr :=
 ⟨h'.os.trans h.os,h'.tape.trans h.tape,h'.output.trans h.output,h'.size.trans h.size,fun k hk => (h'.same k hk).trans (h.same k hk),h'.heap⟩
theorem Chg.drew {w w1 : World} {g : Nat} {L : List Value} {e : TypeId} {fr : Nat × Nat} (h : Chg w.drew w1 g L e fr) : Chg w w1 g L e fr:=⟨h.os,h.tape,h.output,h.size,h.same,h.heap⟩
theorem chg_setRow {w : World} {g : Nat} {cur : Array Value} {e : TypeId} {fr : Nat × Nat} (hg : w.heap[g]? = some (.cells cur e fr)) (L : List Value) : Chg w (w.setRow g L.toArray) g L e fr :=
 ⟨rfl,rfl,rfl,by simp [World.setRow],fun k hk => setRow_other w g k _ hk,setRow_heap w g cur _ e fr hg⟩
def over (L : List Value) (o : Nat) (cs : List Value) : List Value:=L.take o ++ cs ++ L.drop (o + cs.length)
theorem over_length {L : List Value} {o : Nat} {cs : List Value} (h : o + cs.length ≤ L.length) : (over L o cs).length = L.length:=by
 simp [over];omega
theorem run_copy_over {w : World} {dT sT elem : TypeId} {ie : TypeInfo} (hu : P.underlying dT = some (.slice elem)) (hi : P.info? elem = some ie) {g o dLen : Nat} {a : Addr} {sLen m : Nat} {cs : List Value} (hm : m = min sLen dLen)
 (hn : cs.length = m * ie.size) (hsrc : ∀ j v,cs[j]? = some v → w.cell? (a.add j) = some v) {L : List Value} {e : TypeId} {fr : Nat × Nat} (hg : w.heap[g]? = some (.cells L.toArray e fr)) (ht : fr.1 = fr.2)
 (hfit : o + cs.length ≤ L.length) (h1 : ∀ v ∈ cs,v.oneCell' = true) :
 ∃ w',(∀ ty dCap sCap,(Builtin.copy_ #[dT,sT] ty #[.slice (some ⟨g,o,none⟩) dLen dCap,.slice (some a) sLen sCap]).run P w = .ok (goInt m) w') ∧ Chg w w' g (over L o cs) e fr:=by
 subst hm
 have hst:=run_storeCells_thawed (P:=P) g o e fr cs 0 L.toArray w hg ht (by simpa using hfit) h1
 simp only [Nat.add_zero,List.toList_toArray] at hst
 refine ⟨_,fun ty dCap sCap => ?_,chg_setRow hg (over L o cs)⟩
 have hf:=run_firstCells_some (P:=P) w ie.size (Nat.min sLen dLen) a sLen sCap cs hn hsrc
 have e1 : Nat.min sLen dLen = min sLen dLen:=rfl
 rw [e1] at hf
 simp [Builtin.copy_,run_underlying hu,Builtin.lenOf,sizeOf,typeInfo,hi,e1,hf,hst,over]
theorem run_copy_none {w : World} {dT sT ty elem : TypeId} {ie : TypeInfo} (hu : P.underlying dT = some (.slice elem)) (hi : P.info? elem = some ie) {A B : Option Addr} {dLen dCap sLen sCap : Nat} (hn : Nat.min sLen dLen = 0) :
 (Builtin.copy_ #[dT,sT] ty #[.slice A dLen dCap,.slice B sLen sCap]).run P w = .ok (goInt 0) w:=by
 have hf : (Builtin.firstCells ie.size 0 (.slice B sLen sCap)).run P w = .ok #[] w:=by
  cases B <;> simp [Builtin.firstCells,Go.loadCells,Go.loadCellsFrom]
 cases A <;> simp [Builtin.copy_,run_underlying hu,Builtin.lenOf,sizeOf,typeInfo,hi,hn,hf,storeCells]
theorem run_append_zeros_grow {w : World} {t tn ty e : TypeId} {i : TypeInfo} {z : Value} {kn : IntKind} (ht : P.underlying t = some (.slice e)) (htn : P.underlying tn = some (.int kn)) (hi : P.info? e = some i) (hz : i.zero = some z)
 (hzs : z.cells.size = i.size) {b : Addr} {n c k : Nat} {k0 : IntKind} {olds : List Value} (hlo : olds.length = n * i.size) (holds : ∀ j v,olds[j]? = some v → w.cell? (b.add j) = some v) (hk : 0 < k) (hs : 0 < i.size) (hgrow : c < n + k) (h63 : n + k ≤ 9223372036854775807) (hfit : (n + k) * i.bytes ≤ 140737488355328) :
 ∃ (cap : Nat) (w' : World) (L : List Value),(Builtin.append_ #[t,tn] ty #[.slice (some b) n c,.int k0 k]).run P w = .ok (.slice (some ⟨w.heap.size,0,none⟩) (n + k) cap) w' ∧ n + k ≤ cap ∧ cap ≤ 9223372036854775807 ∧ w'.os = w.os ∧ w'.tape = w.tape ∧ w'.output = w.output ∧
  w'.heap.size = w.heap.size + 1 ∧ (∀ q,q < w.heap.size → w'.heap[q]? = w.heap[q]?) ∧ w'.heap[w.heap.size]? = some (.cells L.toArray e (0,0)) ∧ L.length = cap * i.size ∧ L.take (n * i.size) = olds:=by
 have hn : ¬ (n + k ≤ c):=by omega
 have hw : IntKind.i64.wrap (k : Int) = k:=by rw [IntKind.wrap_i64];omega
 have h63' : ¬ (9223372036854775807 < ((n : Int) + (k : Int))):=by omega
 have hb0 : k * i.bytes ≤ (n + k) * i.bytes:=Nat.mul_le_mul_right _ (by omega)
 have h48i : ¬ (281474976710656 < (k : Int) * (i.bytes : Int)):=by
  rw [← Int.natCast_mul]
  omega
 have hf:=growslice_fits (old:=c) (need:=n + k) (bytes:=i.bytes) (by omega) hfit
 have h48' : ¬ (281474976710656 < Builtin.nextslicecap (n + k) c * i.bytes):=by omega
 have hneg : ¬ ((k : Int) < 0):=by omega
 have hk0 : k ≠ 0:=by omega
 have hns : ¬ (k * i.size = 0):=Nat.mul_ne_zero hk0 (by omega)
 have hfo:=run_firstCells_some (P:=P) w.drew i.size n b n c olds hlo (by simpa using holds)
 have hge:=grownCap_ge w (n + k) c e
 let L : List Value:=olds ++ (Builtin.zeroCells z.cells k).toList ++ (Builtin.zeroCells z.cells (grownCap w (n + k) c e - (n + k))).toList
 refine ⟨grownCap w (n + k) c e,w.drew.alloc (.cells L.toArray e),L,?_,hge,cap63 w _ _ _ h63,rfl,rfl,rfl,?_,fun q hq => ?_,heap_new w.drew _,?_,?_⟩
 · simp [Builtin.append_,run_underlying ht,run_underlying htn,sizeOf,typeInfo,zeroValue,hi,hz,asInt,asIntOf,hw,hn,hneg,hns,h63',h48',h48i,hk0,Question.forced,hfo,newRow,grownCap,L]
   congr 2
   apply Array.ext'
   simp [List.append_assoc]
 · show (w.heap.push _).size = _
   simp
 · show (w.heap.push _)[q]? = _
   rw [Array.getElem?_push_lt hq,Array.getElem?_eq_getElem hq]
 · simp only [L,List.length_append,Array.length_toList,size_zeroCells,hzs,hlo,← Nat.add_mul]
   congr 1
   omega
 · simp only [L,List.append_assoc]
   rw [← hlo]
   exact List.take_left
theorem run_append_over {w : World} {t ty e : TypeId} {i : TypeInfo} (ht : P.underlying t = some (.slice e)) (hi : P.info? e = some i) {g n c : Nat} {a : Addr} {m mc : Nat} {cs : List Value} (hn : cs.length = m * i.size)
 (hsrc : ∀ j v,cs[j]? = some v → w.cell? (a.add j) = some v) {L : List Value} {et : TypeId} {fr : Nat × Nat} (hg : w.heap[g]? = some (.cells L.toArray et fr)) (hfr : fr.1 = fr.2) (hfit : n * i.size + cs.length ≤ L.length) (hroom : n + m ≤ c) (h1 : ∀ v ∈ cs,v.oneCell' = true) :
 ∃ w',(Builtin.append_ #[t,t] ty #[.slice (some ⟨g,0,none⟩) n c,.slice (some a) m mc]).run P w = .ok (.slice (some ⟨g,0,none⟩) (n + m) c) w' ∧ Chg w w' g (over L (n * i.size) cs) et fr:=by
 have hf:=run_firstCells_some (P:=P) w i.size m a m mc cs hn hsrc
 have hst:=run_storeCells_thawed (P:=P) g (n * i.size) et fr cs 0 L.toArray w hg hfr (by simpa using hfit) h1
 simp only [Nat.add_zero,List.toList_toArray] at hst
 refine ⟨_,?_,chg_setRow hg (over L (n * i.size) cs)⟩
 simp [Builtin.append_,run_underlying ht,sizeOf,typeInfo,hi,Builtin.lenOf,hroom,hf,Addr.add_lit,hst,over]
theorem run_append_new {w : World} {t ty e : TypeId} {i : TypeInfo} {z : Value} (ht : P.underlying t = some (.slice e)) (hi : P.info? e = some i) (hz : i.zero = some z) (hzs : z.cells.size = i.size) {b a : Addr} {n c m mc : Nat} {olds news : List Value}
 (hlo : olds.length = n * i.size) (holds : ∀ j v,olds[j]? = some v → w.cell? (b.add j) = some v) (hl : news.length = m * i.size) (hnews : ∀ j v,news[j]? = some v → w.cell? (a.add j) = some v) (hgrow : c < n + m) (h63 : n + m ≤ 9223372036854775807) (hfit : (n + m) * i.bytes ≤ 140737488355328) :
 ∃ (cap : Nat) (w' : World) (L : List Value),(Builtin.append_ #[t,t] ty #[.slice (some b) n c,.slice (some a) m mc]).run P w = .ok (.slice (some ⟨w.heap.size,0,none⟩) (n + m) cap) w' ∧ n + m ≤ cap ∧ cap ≤ 9223372036854775807 ∧ w'.os = w.os ∧ w'.tape = w.tape ∧ w'.output = w.output ∧
  w'.heap.size = w.heap.size + 1 ∧ (∀ q,q < w.heap.size → w'.heap[q]? = w.heap[q]?) ∧ w'.heap[w.heap.size]? = some (.cells L.toArray e (0,0)) ∧ L.length = cap * i.size ∧ L.take ((n + m) * i.size) = olds ++ news:=by
 have hge:=grownCap_ge w (n + m) c e
 have hr:=run_append_grow (P:=P) w t ty e i z ht hi hz b n c olds hlo holds a m mc news hl hnews hgrow (by omega) (growslice_fits (by omega) hfit)
 let L : List Value:=olds ++ news ++ (Builtin.zeroCells z.cells (grownCap w (n + m) c e - (n + m))).toList
 have e1 : olds.toArray ++ news.toArray ++ Builtin.zeroCells z.cells (grownCap w (n + m) c e - (n + m)) = L.toArray:=by
  apply Array.ext'
  simp [L]
 rw [e1] at hr
 refine ⟨_,_,L,hr,hge,cap63 w _ _ _ h63,rfl,rfl,rfl,?_,fun q hq => ?_,heap_new w.drew _,?_,?_⟩
 · show (w.heap.push _).size = _
   simp
 · show (w.heap.push _)[q]? = _
   rw [Array.getElem?_push_lt hq,Array.getElem?_eq_getElem hq]
 · simp only [L,List.length_append,Array.length_toList,size_zeroCells,hzs,hlo,hl,← Nat.add_mul]
   congr 1
   omega
 · have : (n + m) * i.size = (olds ++ news).length:=by rw [List.length_append,hlo,hl,Nat.add_mul]
   simp only [L]
   rw [this]
   exact List.take_left
theorem run_clear_over {w : World} {t e : TypeId} {i : TypeInfo} {z : Value} (ht : P.underlying t = some (.slice e)) (hi : P.info? e = some i) (hz : i.zero = some z) (hzs : z.cells.size = i.size) (hz1 : ∀ v ∈ z.cells.toList,v.oneCell' = true) {g o n : Nat} {L : List Value} {et : TypeId} {fr : Nat × Nat}
 (hg : w.heap[g]? = some (.cells L.toArray et fr)) (hfr : fr.1 = fr.2) (hfit : o + n * i.size ≤ L.length) :
 ∃ (w' : World) (M : List Value),(∀ ty c,(Builtin.clear_ #[t] ty #[.slice (some ⟨g,o,none⟩) n c]).run P w = .ok (.tuple #[]) w') ∧ Chg w w' g M et fr ∧ M.length = L.length ∧ M.take o = L.take o:=by
 cases n with
 | zero =>
   refine ⟨w,L,fun ty c => by simp [Builtin.clear_,run_underlying ht],⟨rfl,rfl,rfl,rfl,fun _ _ => rfl,hg⟩,rfl,rfl⟩
 | succ n =>
   have hzl : (Builtin.zeroCells z.cells (n + 1)).toList.length = (n + 1) * i.size:=by rw [Array.length_toList,size_zeroCells,hzs]
   have hst:=run_storeCells_thawed (P:=P) g o et fr (Builtin.zeroCells z.cells (n + 1)).toList 0 L.toArray w hg hfr (by simp [hzl];omega) (fun v hv => by
    have : v ∈ z.cells.toList:=by
     simp only [Builtin.zeroCells,Array.toList_map,List.mem_map] at hv
     obtain ⟨q,hq,rfl⟩:=hv
     have hq' : q < (n + 1) * z.cells.size:=by simpa using hq
     have hpos : 0 < z.cells.size:=by
      rcases Nat.eq_zero_or_pos z.cells.size with h0 | h0
      · rw [h0] at hq';omega
      · exact h0
     have hlt : q % z.cells.size < z.cells.size:=Nat.mod_lt _ hpos
     rw [getElem!_pos z.cells _ hlt]
     simp
    exact hz1 v this)
   simp only [Nat.add_zero,List.toList_toArray] at hst
   refine ⟨_,over L o (Builtin.zeroCells z.cells (n + 1)).toList,fun ty c => ?_,chg_setRow hg _,over_length (by rw [hzl];exact hfit),?_⟩
   · simp [Builtin.clear_,run_underlying ht,zeroValue,typeInfo,hi,hz,hst,over]
   · unfold over
     rw [List.append_assoc,List.take_left' (by rw [List.length_take];omega)]
end
end Go.Ev
namespace Go.Ev
theorem cell_take {w : World} {g : Nat} {L : List Value} {e : TypeId} {fr : Nat × Nat} (hg : w.heap[g]? = some (.cells L.toArray e fr)) (o k : Nat) : ∀ j v,((L.drop o).take k)[j]? = some v → w.cell? ((⟨g,o,none⟩ : Addr).add j) = some v:=by
 intro j v hj
 rw [addr_add,cell_at hg]
 rw [List.getElem?_take] at hj
 split at hj
 · simpa using hj
 · cases hj
theorem run_overlaps_no {P : Program} (w : World) (tS tR e : TypeId) (ht : P.underlying tS = some (.slice e)) {ie : TypeInfo} (hi : P.info? e = some ie) {a b o p la ca lb cb : Nat} (hne : a ≠ b)
 {A B : Array Value} {ta tb : TypeId} {fa fb : Nat × Nat} (ha : w.heap[a]? = some (.cells A ta fa)) (hfa : fa.1 = fa.2) (hb : w.heap[b]? = some (.cells B tb fb)) (hB : B.size ≠ 0) :
 (Extern.SlicesOverlaps.overlaps #[tS,tS] #[tR] #[.slice (some ⟨a,o,none⟩) la ca,.slice (some ⟨b,p,none⟩) lb cb]).run P w = .ok (.bool false) w:=by
 have sa : w.shape? a = some (ta,A.size):=by simp [World.shape?,ha]
 have sb : w.shape? b = some (tb,B.size):=by simp [World.shape?,hb]
 have za : ∀ q,w.frozen? ⟨a,q,none⟩ = false:=fun q => by
  simp only [World.frozen?,ha]
  simp
  omega
 have hsz : ∀ w,(Go.sizeOf e).run P w = .ok ie.size w:=fun w => by simp [Go.sizeOf,typeInfo,hi]
 exact Lib.run_overlaps_apart w tS tR e ht ie.size hsz ⟨a,o,none⟩ ⟨b,p,none⟩ la ca lb cb hne ta tb A.size B.size sa sb hB (za _) (za _)
end Go.Ev
namespace Go.Ev
theorem run_append_new0 {P : Program} {w : World} {t ty e : TypeId} {i : TypeInfo} {z : Value} (ht : P.underlying t = some (.slice e)) (hi : P.info? e = some i) (hz : i.zero = some z) (hzs : z.cells.size = i.size) {A : Option Addr} {a : Addr} {m mc : Nat} {news : List Value}
 (hl : news.length = m * i.size) (hnews : ∀ j v,news[j]? = some v → w.cell? (a.add j) = some v) (hm : 0 < m) (h63 : m ≤ 9223372036854775807) (hfit : m * i.bytes ≤ 140737488355328) :
 ∃ (cap : Nat) (w' : World) (L : List Value),(Builtin.append_ #[t,t] ty #[.slice A 0 0,.slice (some a) m mc]).run P w = .ok (.slice (some ⟨w.heap.size,0,none⟩) m cap) w' ∧ m ≤ cap ∧ cap ≤ 9223372036854775807 ∧ w'.os = w.os ∧ w'.tape = w.tape ∧ w'.output = w.output ∧
  w'.heap.size = w.heap.size + 1 ∧ (∀ q,q < w.heap.size → w'.heap[q]? = w.heap[q]?) ∧ w'.heap[w.heap.size]? = some (.cells L.toArray e (0,0)) ∧ L.length = cap * i.size ∧ L.take (m * i.size) = news:=by
 cases A with
 | some b =>
   obtain ⟨cap,w',L,h⟩:=run_append_new (P:=P) (w:=w) (t:=t) (ty:=ty) (c:=0) (n:=0) (mc:=mc) (b:=b) (a:=a) ht hi hz hzs (olds:=[]) (by simp) (by simp) hl hnews (by omega) (by omega) (by simpa using hfit)
   simp only [Nat.zero_add,List.nil_append] at h
   exact ⟨cap,w',L,h⟩
 | none =>
   have hge:=grownCap_ge w m 0 e
   have hr:=run_append_nil (P:=P) w t ty e i z ht hi hz a m mc news hl hnews (by omega) (by omega) (by omega)
   let L : List Value:=news ++ (Builtin.zeroCells z.cells (grownCap w m 0 e - m)).toList
   have e1 : news.toArray ++ Builtin.zeroCells z.cells (grownCap w m 0 e - m) = L.toArray:=by
    apply Array.ext'
    simp [L]
   rw [e1] at hr
   refine ⟨_,_,L,hr,hge,cap63 w _ _ _ h63,rfl,rfl,rfl,?_,fun q hq => ?_,heap_new w.drew _,?_,?_⟩
   · show (w.heap.push _).size = _
     simp
   · show (w.heap.push _)[q]? = _
     rw [Array.getElem?_push_lt hq,Array.getElem?_eq_getElem hq]
   · simp only [L,List.length_append,Array.length_toList,size_zeroCells,hzs,hl,← Nat.add_mul]
     congr 1
     omega
   · simp only [L]
     rw [← hl]
     exact List.take_left
theorem start_own {w : World} {Oc : Nat → Prop} {os : List OV} {us : List Value} {ab : Blk} (h : SRel w Oc (startSlots 0 os) (fun t => us.getD t Go.undef) ab) {i : Nat} {sh : Option Nat} {xs sp : List PV} (hi : os[i]? = some (.flat (.own sh xs sp))) :
 (xs = [] ∧ ∃ A,us.getD i Go.undef = .slice A 0 0) ∨ ∃ (b c : Nat) (L : List Value) (e : TypeId) (fr : Nat × Nat),us.getD i Go.undef = .slice (some ⟨b,0,none⟩) xs.length c ∧ ab i none = some b ∧ w.heap[b]? = some (.cells L.toArray e fr) ∧ fr.1 = fr.2 ∧
   c * shN sh ≤ L.length ∧ xs.length ≤ c ∧ c ≤ 9223372036854775807 ∧ RowIn w (ab.off Oc) sh xs (L.take (xs.length * shN sh)).toArray:=by
 have hr:=h.rep i
 rw [get_start,if_pos (Nat.zero_le _),Nat.sub_zero,hi] at hr
 obtain ⟨hf,_⟩:=ORep.flat_inv hr
 generalize us.getD i Go.undef = u at hf
 generalize ab i none = m at hf
 cases hf with
 | ownE _ A => exact .inl ⟨rfl,A,rfl⟩
 | own _ _ _ b c cur e fr vs how =>
   refine .inr ⟨b,c,cur.toList,e,fr,rfl,rfl,by simpa using how.heap,how.thaw,by simpa using how.size,how.len,how.capL,⟨how.fits,how.cell,fun i x j y hi hj => ⟨vs i j,?_,how.rep i x j y hi hj⟩⟩⟩
   have hj' : j < shN sh:=by rw [← cells_length (how.fits i x hi)];exact (List.getElem?_eq_some_iff.1 hj).1
   have hi' : i < xs.length:=(List.getElem?_eq_some_iff.1 hi).1
   have hlt : i * shN sh + j < xs.length * shN sh:=by
    have : (i + 1) * shN sh ≤ xs.length * shN sh:=Nat.mul_le_mul_right _ hi'
    rw [Nat.add_mul,Nat.one_mul] at this
    omega
   simp only [List.getElem?_toArray]
   rw [List.getElem?_take,if_pos hlt]
   simpa using how.at_ i x j y hi hj
theorem RowIn.one {w : World} {O : Nat → Prop} {sh : Option Nat} {xs : List PV} {L : List Value} (h : RowIn w O sh xs L.toArray) (hl : L.length = xs.length * shN sh) : ∀ v ∈ L,v.oneCell' = true:=by
 intro v hv
 obtain ⟨q,hq⟩:=List.getElem?_of_mem hv
 have hlt : q < xs.length * shN sh:=by rw [← hl];exact (List.getElem?_eq_some_iff.1 hq).1
 have hpos : 0 < shN sh:=by
  rcases Nat.eq_zero_or_pos (shN sh) with h0 | h0
  · rw [h0] at hlt;omega
  · exact h0
 have hi' : q / shN sh < xs.length:=by rw [Nat.div_lt_iff_lt_mul hpos];exact hlt
 have hj' : q % shN sh < shN sh:=Nat.mod_lt _ hpos
 have hx : xs[q / shN sh]? = some xs[q / shN sh]:=List.getElem?_eq_getElem hi'
 have hy : (xs[q / shN sh]).cells[q % shN sh]? = some ((xs[q / shN sh]).cells[q % shN sh]'(by rw [cells_length (h.fits _ _ hx)];exact hj')):=List.getElem?_eq_getElem _
 obtain ⟨z,hz,hr⟩:=h.rep _ _ _ _ hx hy
 have e : q / shN sh * shN sh + q % shN sh = q:=by rw [Nat.mul_comm];exact Nat.div_add_mod q (shN sh)
 rw [e] at hz
 simp only [List.getElem?_toArray] at hz
 rw [hq] at hz
 cases hz
 exact (hr.one (h.cell _ _ _ _ hx hy)).2
theorem RowOut.mono {w w' : World} {has has' : Nat → Prop} {sz N : Nat} {L : List Value} {v : Value} (h : RowOut w w' has sz N L v) (hh : ∀ k,has k → has' k) : RowOut w w' has' sz N L v:=by
 refine ⟨h.os,h.tape,h.output,h.size,fun k hk hno => h.same k hk fun q => hno (hh k q),?_⟩
 rcases h.row with h0 | ⟨g,c,cur,e,fr,h1,h2,h3⟩
 · exact .inl h0
 · exact .inr ⟨g,c,cur,e,fr,h1,h2.imp (hh g) id,h3⟩
end Go.Ev
namespace Go.Ev
theorem step_append_known {P : Program} {ops : Array Oper} {o : Oper} {a : Act} {w : World} {K : Act → World → Prop} {Q : Exit → Act → World → Prop} {E : Prop} (hg : o.guard = none) (s x : Operand) (t tn : TypeId)
 (hop : o.op = Op.call { callee:=Callee.builtin Builtin.append,args := #[s,x],argTypes := #[t,tn] }) (v u : Value) (hs : a.eval s = v) (hx : a.eval x = u) {v' : Value} {w' : World} (hr : (Builtin.append_ #[t,tn] o.type #[v,u]).run P w = .ok v' w') (hK : K (a.put o.dst v') w') :
 if Region.wanted o (yielded ops a.tmps) = true then Oper.wp P o a w K Q else E:=by
 have hw : Region.wanted o (yielded ops a.tmps) = true:=by simp [Region.wanted,hg]
 rw [if_pos hw]
 exact Lib.wp_append_run w s x t tn hop v u hs hx v' w' hr hK
theorem wpList_clear_known {P : Program} (w : World) {ops : Array Oper} {rest : List Oper} {o : Oper} {a : Act} {Q : Exit → Act → World → Prop} (hgd : o.guard = none) (x : Operand) (t : TypeId)
 (ho : o.op = .call { callee := .builtin .clear,args := #[x],argTypes := #[t] }) (vx : Value) (hx : a.eval x = vx) (v' : Value) (w' : World) (hr : (Builtin.clear_ #[t] o.type #[vx]).run P w = .ok v' w') (h : wpList P ops Q rest (a.put o.dst v') w') : wpList P ops Q (o :: rest) a w :=
 wpList_plain hgd fun K hK => by
  unfold Oper.wp execOp
  simp only [ho,resolve,invoke,builtin,Sem.run_bind,Sem.run_pure,Result.andThen_ok,List.map_toArray,List.map_cons,List.map_nil,hx,hr]
  exact hK _ _ h
end Go.Ev
namespace Go.Ev
theorem run_append_zeros0 {P : Program} {w : World} {t tn ty e : TypeId} {i : TypeInfo} {z : Value} {kn : IntKind} (ht : P.underlying t = some (.slice e)) (htn : P.underlying tn = some (.int kn)) (hi : P.info? e = some i) (hz : i.zero = some z)
 (hzs : z.cells.size = i.size) {A : Option Addr} {k : Nat} {k0 : IntKind} (hk : 0 < k) (hs : 0 < i.size) (h63 : k ≤ 9223372036854775807) (hfit : k * i.bytes ≤ 140737488355328) :
 ∃ (cap : Nat) (w' : World) (L : List Value),(Builtin.append_ #[t,tn] ty #[.slice A 0 0,.int k0 k]).run P w = .ok (.slice (some ⟨w.heap.size,0,none⟩) k cap) w' ∧ k ≤ cap ∧ cap ≤ 9223372036854775807 ∧ w'.os = w.os ∧ w'.tape = w.tape ∧ w'.output = w.output ∧
  w'.heap.size = w.heap.size + 1 ∧ (∀ q,q < w.heap.size → w'.heap[q]? = w.heap[q]?) ∧ w'.heap[w.heap.size]? = some (.cells L.toArray e (0,0)) ∧ L.length = cap * i.size:=by
 cases A with
 | some b =>
   obtain ⟨cap,w',L,h1,h2,h3,h4,h5,h6,h7,h8,h9,h10,_⟩:=run_append_zeros_grow (P:=P) (w:=w) (t:=t) (tn:=tn) (ty:=ty) (k0:=k0) (c:=0) (n:=0) (k:=k) (b:=b) ht htn hi hz hzs (olds:=[]) (by simp) (by simp) hk hs (by omega) (by omega) (by simpa using hfit)
   simp only [Nat.zero_add] at h1 h2
   exact ⟨cap,w',L,h1,h2,h3,h4,h5,h6,h7,h8,h9,h10⟩
 | none =>
   have hge:=grownCap_ge w k 0 e
   have hr:=Lib.run_append_nil_zeros (P:=P) w t tn ty e i z k0 kn ht htn hi hz k hk hs (by omega) (by omega)
   let L : List Value:=(Builtin.zeroCells z.cells k).toList ++ (Builtin.zeroCells z.cells (grownCap w k 0 e - k)).toList
   have e1 : Builtin.zeroCells z.cells k ++ Builtin.zeroCells z.cells (grownCap w k 0 e - k) = L.toArray:=by
    apply Array.ext'
    simp [L]
   rw [e1] at hr
   refine ⟨_,_,L,hr,hge,cap63 w _ _ _ h63,rfl,rfl,rfl,?_,fun q hq => ?_,heap_new w.drew _,?_⟩
   · show (w.heap.push _).size = _
     simp
   · show (w.heap.push _)[q]? = _
     rw [Array.getElem?_push_lt hq,Array.getElem?_eq_getElem hq]
   · simp only [L,List.length_append,Array.length_toList,size_zeroCells,hzs,← Nat.add_mul]
     congr 1
     omega
end Go.Ev

namespace Go.Ev
def primInsert (s : Option Nat) : List OV → Option (List OV × List OV)
 | [.flat (.own sh xs _),.flat (.val (.int .i64 i)),.flat (.own sh' ys _)] =>
   match shEq sh s && shEq sh' s && Nat.beq ys.length 1 && Nat.ble xs.length 1000000 && decide (0 ≤ i) && decide (i ≤ xs.length) with
   | true => some ([.flat (.own s (xs.take i.toNat ++ ys ++ xs.drop i.toNat) [])],[])
   | false => none
 | _ => none
def primReplace (s : Option Nat) : List OV → Option (List OV × List OV)
 | [.flat (.own sh xs _),.flat (.val (.int .i64 i)),.flat (.val (.int .i64 j)),.flat (.own sh' ys _)] =>
   match shEq sh s && shEq sh' s && Nat.blt 0 ys.length && Nat.ble ys.length 1000 && Nat.ble xs.length 1000000 && decide (0 ≤ i) && decide (i < j) && decide (j ≤ xs.length) with
   | true => some ([.flat (.own s (xs.take i.toNat ++ ys ++ xs.drop j.toNat) [])],[])
   | false => none
 | _ => none
def primDelete (s : Option Nat) : List OV → Option (List OV × List OV)
 | [.flat (.own sh xs _),.flat (.val (.int .i64 i)),.flat (.val (.int .i64 j))] =>
   match shEq sh s && Nat.ble xs.length 1000000 && decide (0 ≤ i) && decide (i < j) && decide (j ≤ xs.length) with
   | true => some ([.flat (.own s (xs.take i.toNat ++ xs.drop j.toNat) [])],[])
   | false => none
 | _ => none
def primSlClone (s : Option Nat) : List OV → Option (List OV × List OV)
 | [.flat (.val (.sl sh xs))] => match shEq sh s && Nat.ble xs.length 1000000 with
   | true => some ([.flat (.own s xs [])],[])
   | false => none
 | _ => none
def primGrow (s : Option Nat) : List OV → Option (List OV × List OV)
 | [.flat (.own sh [] _),.flat (.val (.int .i64 n))] => match shEq sh s && decide (0 ≤ n) && decide (n ≤ 10000000) with
   | true => some ([.flat (.own s [] [])],[])
   | false => none
 | _ => none
end Go.Ev

