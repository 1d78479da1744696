/- What the functions answer, and the laws. -/
import Derived.Test.YtnieankaikhmnaaSm
import Derived.Test.YtnieankaikhmnaaProg
import Derived.WalkKit
import Derived.WalkSpells
import Derived.WalkLawsBesides
import Derived.Lib.Walk
import Derived.ProofKit
import Derived.Laws.CopyRow
import Derived.Laws.CopyOwn
import Derived.Shelf.Spec.SlicesInsert

set_option linter.unusedVariables false

set_option linter.unusedSimpArgs false

set_option linter.unusedSectionVars false

open Go Go.Ev
namespace Go.Proofs.Ytnieankaikhmnaa
open Go.RowKit Go.Shelf
theorem u27 : Try.prog.underlying 27 = some (.slice 33):=by kernel_rfl
theorem u61 : Try.prog.underlying 61 = some (.slice 55):=by kernel_rfl
theorem u3 : Try.prog.underlying 3 = some (.int .i64):=by kernel_rfl
theorem i33f : (Try.prog.info? 33).map (fun i => (i.zero,i.size,i.bytes)) = some (some (.agg #[.slice none 0 0,.slice none 0 0]),2,48):=by kernel_rfl
theorem i55f : (Try.prog.info? 55).map (fun i => (i.zero,i.size,i.bytes)) = some (some (.pointer none),1,8):=by kernel_rfl
theorem i33 : ∃ ie z,Try.prog.info? 33 = some ie ∧ ie.size = 2 ∧ ie.bytes = 48 ∧ ie.zero = some z ∧ z.cells = #[.slice none 0 0,.slice none 0 0]:=by
 obtain ⟨i,h1,h2,h3,h4⟩:=info_parts i33f
 exact ⟨i,_,h1,h3,h4,h2,rfl⟩
theorem i55 : ∃ ie z,Try.prog.info? 55 = some ie ∧ ie.size = 1 ∧ ie.bytes = 8 ∧ ie.zero = some z ∧ z.cells = #[.pointer none]:=by
 obtain ⟨i,h1,h2,h3,h4⟩:=info_parts i55f
 exact ⟨i,_,h1,h3,h4,h2,rfl⟩
set_option maxHeartbeats 4000000 in
set_option maxRecDepth 100000 in
theorem ins_end (w : World) (g n c : Nat) (L : List Value) (et : TypeId) (fr : Nat × Nat) (vb mc : Nat) (M : List Value) (vt : TypeId) (vfr : Nat × Nat)
 (hg : w.heap[g]? = some (.cells L.toArray et fr)) (hfr : fr.1 = fr.2) (hL : c * 2 ≤ L.length) (hnc : n ≤ c) (hc63 : c ≤ 9223372036854775807) (hn : n ≤ 1000000)
 (hv : w.heap[vb]? = some (.cells M.toArray vt vfr)) (hM : 2 ≤ M.length) (hne : vb ≠ g) (h1M : ∀ v ∈ M.take 2,v.oneCell' = true) :
 Calls Try.prog 45 #[.slice (some ⟨g,0,none⟩) n c,.int .i64 n,.slice (some ⟨vb,0,none⟩) 1 mc] w fun e w' => ∃ v,e = .returned v ∧ RowOut w w' (· = g) 2 (n + 1) (L.take (n * 2) ++ M.take 2) v:=by
 obtain ⟨ie,z,hi33,hs,hb,hz,hzc⟩:=i33
 have hzs : z.cells.size = ie.size:=by rw [hzc,hs];rfl
 have hz1 : ¬ ((1 : Int) = 0):=by omega
 have hml : (M.take 2).length = 1 * ie.size:=by rw [List.length_take,hs];omega
 have hmc : ∀ j v,(M.take 2)[j]? = some v → w.cell? ((⟨vb,0,none⟩ : Addr).add j) = some v:=by
  intro j v hj
  rw [addr_add,cell_at hv,Nat.zero_add]
  rw [List.getElem?_take] at hj
  split at hj
  · simpa using hj
  · cases hj
 by_cases hroom : n + 1 ≤ c
 · obtain ⟨w1,hr,hchg⟩:=run_append_over (P:=Try.prog) (ty:=27) (c:=c) (mc:=mc) (n:=n) u27 hi33 (cs:=M.take 2) (m:=1) hml hmc hg hfr (by rw [hml,hs];omega) hroom h1M
   go_enter Try.func45,Try.ntmps45
   go_wp2_with (at_builtin;refine Lib.wpList_append_run _ rfl _ _ _ _ rfl _ _ rfl rfl _ _ hr ?_)
   go_ret
   refine ⟨_,rfl,⟨hchg.os,hchg.tape,hchg.output,Nat.le_of_eq hchg.size.symm,fun k _ hk => hchg.same k hk,.inr ⟨g,c,_,et,fr,rfl,.inl rfl,hchg.heap,hfr,?_,hroom,hc63,?_⟩⟩⟩
   · simp only [List.size_toArray]
     rw [over_length (by rw [hml,hs];omega)]
     exact hL
   · simp only [List.toList_toArray,over,hs]
     rw [List.take_left' (by simp;omega)]
 · obtain ⟨cap,w1,N,hr,hcap,hc64,h1,h2,h3,h4,h5,h6,h7,h8⟩:=run_append_new (P:=Try.prog) (ty:=27) (c:=c) (mc:=mc) (n:=n) (b:=⟨g,0,none⟩) (a:=⟨vb,0,none⟩) (m:=1) u27 hi33 hz hzs (olds:=L.take (n * 2)) (news:=M.take 2) (by rw [List.length_take,hs];omega) (fun j v hj => by
    rw [addr_add,cell_at hg,Nat.zero_add]
    rw [List.getElem?_take] at hj
    split at hj
    · simpa using hj
    · cases hj) hml hmc (by omega) (by omega) (by rw [hb];omega)
   go_enter Try.func45,Try.ntmps45
   go_wp2_with (at_builtin;refine Lib.wpList_append_run _ rfl _ _ _ _ rfl _ _ rfl rfl _ _ hr ?_)
   go_ret
   refine ⟨_,rfl,⟨h1,h2,h3,by omega,fun k hk _ => h5 k hk,.inr ⟨w.heap.size,cap,_,33,(0,0),rfl,.inr (Nat.le_refl _),h6,rfl,?_,hcap,hc64,?_⟩⟩⟩
   · simp only [List.size_toArray]
     rw [h7,hs];exact Nat.le_refl _
   · simp only [List.toList_toArray]
     rw [hs] at h8;exact h8
theorem over_take {L cs : List Value} {o k : Nat} (h : k ≤ o) (hl : o ≤ L.length) : (over L o cs).take k = L.take k:=by
 unfold over
 rw [List.append_assoc,List.take_append_of_le_length (by simp;omega),List.take_take,Nat.min_eq_left h]
theorem over_take_end {L cs : List Value} {o : Nat} (hl : o ≤ L.length) : (over L o cs).take (o + cs.length) = L.take o ++ cs:=by
 unfold over
 rw [List.take_left' (by simp;omega)]
theorem over_drop {L cs : List Value} {o k : Nat} (h : o + cs.length ≤ k) (hl : o + cs.length ≤ L.length) : (over L o cs).drop k = L.drop k:=by
 unfold over
 have e : (L.take o ++ cs).length = o + cs.length:=by simp;omega
 rw [List.drop_append,List.drop_eq_nil_of_le (by omega),List.nil_append,List.drop_drop,e]
 congr 1
 omega
set_option maxHeartbeats 4000000 in
set_option maxRecDepth 100000 in
theorem ins_shift (w : World) (g n c i : Nat) (L : List Value) (et : TypeId) (fr : Nat × Nat) (vb mc : Nat) (M : List Value) (vt : TypeId) (vfr : Nat × Nat)
 (hg : w.heap[g]? = some (.cells L.toArray et fr)) (hfr : fr.1 = fr.2) (hL : c * 2 ≤ L.length) (hnc : n ≤ c) (hc63 : c ≤ 9223372036854775807) (hn : n ≤ 1000000) (hi : i < n) (hroom : n + 1 ≤ c)
 (hv : w.heap[vb]? = some (.cells M.toArray vt vfr)) (hvf : vfr.1 = vfr.2) (hM : 2 ≤ M.length) (hne : vb ≠ g) (h1M : ∀ v ∈ M.take 2,v.oneCell' = true) (h1L : ∀ v ∈ L.take (n * 2),v.oneCell' = true) :
 Calls Try.prog 45 #[.slice (some ⟨g,0,none⟩) n c,.int .i64 i,.slice (some ⟨vb,0,none⟩) 1 mc] w fun e w' => ∃ v,e = .returned v ∧ RowOut w w' (· = g) 2 (n + 1) (L.take (i * 2) ++ M.take 2 ++ (L.take (n * 2)).drop (i * 2)) v:=by
 obtain ⟨ie,z,hi33,hs,hb,hz,hzc⟩:=i33
 have hz1 : ¬ ((1 : Int) = 0):=by omega
 have hz2 : ¬ ((i : Int) = (n : Int)):=by omega
 have hov : ∀ lb cb,(callFunc 58 #[.slice (some ⟨vb,0,none⟩) 1 mc,.slice (some ⟨g,(i + 1) * 2,none⟩) lb cb]).run Try.prog w = .ok (.value (.bool false)) w:=fun lb cb => by
  rw [run_callFunc_extern Try.func58 (by kernel_rfl) (by kernel_rfl) (by kernel_rfl) (e:=Extern.SlicesOverlaps.overlaps #[27,27] #[4]) (by kernel_rfl),
   run_overlaps_no w 27 4 33 u27 hi33 hne hv hvf hg (by rw [List.size_toArray];omega)]
  rfl
 have hX : ((L.drop (i * 2)).take ((n - i) * 2)).length = (n - i) * 2:=by simp;omega
 have hmem1 : ∀ v ∈ (L.drop (i * 2)).take ((n - i) * 2),v.oneCell' = true:=by
  intro v hv'
  refine h1L v ?_
  have e : (L.drop (i * 2)).take ((n - i) * 2) = (L.take (n * 2)).drop (i * 2):=by
   rw [List.drop_take]
   congr 1
   omega
  rw [e] at hv'
  exact List.mem_of_mem_drop hv'
 obtain ⟨w1,hr1,hc1⟩:=run_copy_over (P:=Try.prog) (w:=w.drew) (dT:=27) (sT:=27) (dLen:=n - i) (sLen:=n + 1 - i) (m:=n - i) (a:=⟨g,i * 2,none⟩) (o:=(i + 1) * 2) u27 hi33 (by omega) (cs:=(L.drop (i * 2)).take ((n - i) * 2)) (by rw [hX,hs]) (cell_take hg _ _) hg hfr (by rw [hX];omega) hmem1
 have hml : (M.take 2).length = 1 * ie.size:=by rw [List.length_take,hs];omega
 have hl1 : (over L ((i + 1) * 2) ((L.drop (i * 2)).take ((n - i) * 2))).length = L.length:=over_length (by rw [hX];omega)
 have hv1 : w1.heap[vb]? = some (.cells M.toArray vt vfr):=by rw [hc1.same vb hne];exact hv
 obtain ⟨w2,hr2,hc2⟩:=run_copy_over (P:=Try.prog) (w:=w1) (dT:=27) (sT:=27) (dLen:=n + 1 - i) (sLen:=1) (m:=1) (a:=⟨vb,0,none⟩) (o:=i * 2) u27 hi33 (by omega) (cs:=M.take 2) hml (fun j v hj => by
  have:=cell_take hv1 0 2 j v (by simpa using hj)
  exact this) hc1.heap hfr (by rw [hl1,List.length_take];omega) h1M
 have mixed : Try.prog.follows .mixedOrders = true:=by kernel_rfl
 have hw1 : IntKind.i64.wrap ((i : Int) + (1 : Int)) = (i : Int) + (1 : Int):=by rw [IntKind.wrap_i64];omega
 have hb1 : (0 : Int) ≤ (i : Int) + (1 : Int):=by omega
 have hin : i ≤ n:=by omega
 have htn : ((i : Int) + (1 : Int)).toNat = i + 1:=by omega
 have hb2 : ¬ (c = i + 1):=by omega
 have hb3 : (i : Int) ≤ (n : Int) + (1 : Int):=by omega
 have hb4 : ¬ (c = i):=by omega
 go_enter Try.func45,Try.ntmps45
 go_wp2_with (simp only [hov])
 go_region_law_o (refine step_copy_runI rfl _ _ 27 27 rfl _ _ (by simp [Act.eval,Act.put]) (by simp [Act.eval,Act.put]) (hr1 _ _ _) ?_)
 go_wp2_with (at_builtin;refine wpList_copy_runI _ rfl _ _ 27 27 rfl _ _ rfl rfl (hr2 _ _ _) ?_)
 go_ret
 have hc:=hc1.drew.trans hc2
 refine ⟨_,rfl,⟨hc.os,hc.tape,hc.output,Nat.le_of_eq hc.size.symm,fun k _ hk => hc.same k hk,.inr ⟨g,c,_,et,fr,rfl,.inl rfl,hc.heap,hfr,?_,hroom,hc63,?_⟩⟩⟩
 · simp only [List.size_toArray]
   rw [over_length (by rw [hl1,hml,hs];omega),hl1]
   exact hL
 · simp only [List.toList_toArray]
   have e1 : (n + 1) * 2 = (i * 2 + (M.take 2).length) + (n - i) * 2:=by rw [hml,hs];omega
   rw [e1,List.take_add,over_take_end (by rw [hl1];omega),over_drop (Nat.le_refl _) (by rw [hl1,hml,hs];omega),over_take (by omega) (by omega)]
   congr 1
   have e2 : i * 2 + (M.take 2).length = (i + 1) * 2:=by rw [hml,hs];omega
   rw [e2]
   unfold over
   rw [List.append_assoc,List.drop_left' (by simp;omega),List.take_left' hX,List.drop_take]
   congr 1
   omega
end Go.Proofs.Ytnieankaikhmnaa

open Go Go.Ev
namespace Go.Proofs.Ytnieankaikhmnaa
open Go.RowKit Go.Shelf
set_option maxHeartbeats 4000000 in
set_option maxRecDepth 100000 in
theorem ins_grow (w : World) (g n c i : Nat) (L : List Value) (et : TypeId) (fr : Nat × Nat) (vb mc : Nat) (M : List Value) (vt : TypeId) (vfr : Nat × Nat)
 (hg : w.heap[g]? = some (.cells L.toArray et fr)) (hL : c * 2 ≤ L.length) (hnc : n ≤ c) (hn : n ≤ 1000000) (hi : i < n) (hroom : c < n + 1)
 (hv : w.heap[vb]? = some (.cells M.toArray vt vfr)) (hM : 2 ≤ M.length) (h1M : ∀ v ∈ M.take 2,v.oneCell' = true) (h1L : ∀ v ∈ L.take (n * 2),v.oneCell' = true) :
 Calls Try.prog 45 #[.slice (some ⟨g,0,none⟩) n c,.int .i64 i,.slice (some ⟨vb,0,none⟩) 1 mc] w fun e w' => ∃ v,e = .returned v ∧ RowOut w w' (· = g) 2 (n + 1) (L.take (i * 2) ++ M.take 2 ++ (L.take (n * 2)).drop (i * 2)) v:=by
 obtain ⟨ie,z,hi33,hs,hb,hz,hzc⟩:=i33
 have hzs : z.cells.size = ie.size:=by rw [hzc,hs];rfl
 have hz1 : ¬ ((1 : Int) = 0):=by omega
 have hz2 : ¬ ((i : Int) = (n : Int)):=by omega
 have hcn : c = n:=by omega
 subst hcn
 obtain ⟨cap,w1,N,hr,hcap,hc64,o1,o2,o3,o4,o5,o6,o7,o8⟩:=run_append_zeros_grow (P:=Try.prog) (w:=w) (t:=27) (tn:=3) (ty:=27) (k0 := .i64) (c:=c) (n:=i) (k:=c + 1 - i) (b:=⟨g,0,none⟩) (olds:=L.take (i * 2)) u27 u3 hi33 hz hzs (by rw [List.length_take,hs];omega) (fun j v hj => by
  have:=cell_take hg 0 (i * 2) j v (by simpa using hj)
  exact this) (by omega) (by omega) (by omega) (by omega) (by rw [hb];omega)
 have hk : ((c + 1 - i : Nat) : Int) = (c : Int) + 1 - (i : Int):=by omega
 have hsum : i + (c + 1 - i) = c + 1:=by omega
 rw [hk,hsum] at hr
 have hlt : g < w.heap.size:=(Array.getElem?_eq_some_iff.1 hg).1
 have hvlt : vb < w.heap.size:=(Array.getElem?_eq_some_iff.1 hv).1
 have hg1 : w1.heap[g]? = some (.cells L.toArray et fr):=by rw [o5 g hlt];exact hg
 have hv1 : w1.heap[vb]? = some (.cells M.toArray vt vfr):=by rw [o5 vb hvlt];exact hv
 have hml : (M.take 2).length = 1 * ie.size:=by rw [List.length_take,hs];omega
 obtain ⟨w2,hr2,hc2⟩:=run_copy_over (P:=Try.prog) (w:=w1) (dT:=27) (sT:=27) (dLen:=c + 1 - i) (sLen:=1) (m:=1) (a:=⟨vb,0,none⟩) (o:=i * 2) u27 hi33 (by omega) (cs:=M.take 2) hml (fun j v hj => by
  have:=cell_take hv1 0 2 j v (by simpa using hj)
  exact this) o6 rfl (by rw [o7,hml,hs];omega) h1M
 have hg2 : w2.drew.heap[g]? = some (.cells L.toArray et fr):=by
  show w2.heap[g]? = _
  rw [hc2.same g (by omega)];exact hg1
 have hX : ((L.drop (i * 2)).take ((c - i) * 2)).length = (c - i) * 2:=by simp;omega
 have hmem1 : ∀ v ∈ (L.drop (i * 2)).take ((c - i) * 2),v.oneCell' = true:=by
  intro v hv'
  refine h1L v ?_
  have e : (L.drop (i * 2)).take ((c - i) * 2) = (L.take (c * 2)).drop (i * 2):=by
   rw [List.drop_take]
   congr 1
   omega
  rw [e] at hv'
  exact List.mem_of_mem_drop hv'
 have hl2 : (over N (i * 2) (M.take 2)).length = N.length:=over_length (by rw [o7,hml,hs];omega)
 obtain ⟨w3,hr3,hc3⟩:=run_copy_over (P:=Try.prog) (w:=w2.drew) (dT:=27) (sT:=27) (dLen:=c - i) (sLen:=c - i) (m:=c - i) (a:=⟨g,i * 2,none⟩) (o:=(i + 1) * 2) u27 hi33 (by omega) (cs:=(L.drop (i * 2)).take ((c - i) * 2)) (by rw [hX,hs]) (cell_take hg2 _ _) hc2.heap rfl (by rw [hl2,hX,o7,hs];omega) hmem1
 have mixed : Try.prog.follows .mixedOrders = true:=by kernel_rfl
 have hw1 : IntKind.i64.wrap ((i : Int) + (1 : Int)) = (i : Int) + (1 : Int):=by rw [IntKind.wrap_i64];omega
 have hb1 : (0 : Int) ≤ (i : Int) + (1 : Int):=by omega
 have hin : i ≤ c:=by omega
 have htn : ((i : Int) + (1 : Int)).toNat = i + 1:=by omega
 have hb2 : ¬ (cap = i + 1):=by omega
 have hb3 : (i : Int) ≤ (c : Int) + (1 : Int):=by omega
 have hb4 : ¬ (cap = i):=by omega
 have hb5 : ¬ (c = i):=by omega
 go_enter Try.func45,Try.ntmps45
 go_wp2_with (first | (at_builtin;refine Lib.wpList_append_run _ rfl _ _ _ _ rfl _ _ rfl rfl _ _ hr ?_) | (at_builtin;refine wpList_copy_runI _ rfl _ _ 27 27 rfl _ _ rfl rfl (hr2 _ _ _) ?_))
 go_region_law_o (refine step_copy_runI rfl _ _ 27 27 rfl _ _ (by simp [Act.eval,Act.put]) (by simp [Act.eval,Act.put]) (hr3 _ _ _) ?_)
 go_wp2
 go_ret
 have e3:=hc3.drew
 have hlen3 : (over (over N (i * 2) (M.take 2)) ((i + 1) * 2) ((L.drop (i * 2)).take ((c - i) * 2))).length = N.length:=by rw [over_length (by rw [hl2,hX,o7,hs];omega),hl2]
 refine ⟨_,rfl,⟨e3.os.trans (hc2.os.trans o1),e3.tape.trans (hc2.tape.trans o2),e3.output.trans (hc2.output.trans o3),by rw [e3.size,hc2.size,o4];omega,fun k hk _ => by rw [e3.same k (by omega),hc2.same k (by omega),o5 k hk],.inr ⟨w.heap.size,cap,_,33,(0,0),rfl,.inr (Nat.le_refl _),e3.heap,rfl,?_,by omega,hc64,?_⟩⟩⟩
 · simp only [List.size_toArray]
   rw [hlen3,o7,hs]
   exact Nat.le_refl _
 · simp only [List.toList_toArray]
   have e1 : (c + 1) * 2 = (i + 1) * 2 + ((L.drop (i * 2)).take ((c - i) * 2)).length:=by rw [hX];omega
   rw [e1,over_take_end (by rw [hl2,o7,hs];omega)]
   have e2 : (i + 1) * 2 = i * 2 + (M.take 2).length:=by rw [hml,hs];omega
   have o8' : N.take (i * 2) = L.take (i * 2):=by rw [hs] at o8;exact o8
   rw [e2,over_take_end (by rw [o7,hs];omega),o8',List.drop_take]
   congr 1
   congr 1
   omega
end Go.Proofs.Ytnieankaikhmnaa

open Go Go.Ev
namespace Go.Proofs.Ytnieankaikhmnaa
open Go.RowKit Go.Shelf
set_option maxHeartbeats 4000000 in
set_option maxRecDepth 100000 in
theorem ins_none (w : World) (A : Option Addr) (vb mc : Nat) (M : List Value) (vt : TypeId) (vfr : Nat × Nat)
 (hv : w.heap[vb]? = some (.cells M.toArray vt vfr)) (hM : 2 ≤ M.length) :
 Calls Try.prog 45 #[.slice A 0 0,.int .i64 0,.slice (some ⟨vb,0,none⟩) 1 mc] w fun e w' => ∃ v,e = .returned v ∧ RowOut w w' (fun _ => False) 2 1 (M.take 2) v:=by
 obtain ⟨ie,z,hi33,hs,hb,hz,hzc⟩:=i33
 have hzs : z.cells.size = ie.size:=by rw [hzc,hs];rfl
 have hz1 : ¬ ((1 : Int) = 0):=by omega
 have hml : (M.take 2).length = 1 * ie.size:=by rw [List.length_take,hs];omega
 obtain ⟨cap,w1,N,hr,hcap,hc64,h1,h2,h3,h4,h5,h6,h7,h8⟩:=run_append_new0 (P:=Try.prog) (w:=w) (t:=27) (ty:=27) (mc:=mc) (A:=A) (a:=⟨vb,0,none⟩) (m:=1) u27 hi33 hz hzs (news:=M.take 2) hml (fun j v hj => by
  have:=cell_take hv 0 2 j v (by simpa using hj)
  exact this) (by omega) (by omega) (by rw [hb];omega)
 cases A <;>
 · go_enter Try.func45,Try.ntmps45
   go_wp2_with (at_builtin;refine Lib.wpList_append_run _ rfl _ _ _ _ rfl _ _ rfl rfl _ _ hr ?_)
   go_ret
   refine ⟨_,rfl,⟨h1,h2,h3,by omega,fun k hk _ => h5 k hk,.inr ⟨w.heap.size,cap,_,33,(0,0),rfl,.inr (Nat.le_refl _),h6,rfl,?_,hcap,hc64,?_⟩⟩⟩
   · simp only [List.size_toArray]
     rw [h7,hs];exact Nat.le_refl _
   · simp only [List.toList_toArray]
     rw [hs] at h8;exact h8
theorem insert_spec {os : List OV} {rr : List OV × List OV} (hp : primInsert (some 2) os = some rr) : CallSpec Try.prog 45 os rr.1 rr.2:=by
 unfold primInsert at hp
 split at hp
 · rename_i sh xs sp i sh' ys sq
   split at hp
   · rename_i hc
     cases hp
     simp only [Bool.and_eq_true,decide_eq_true_eq,Nat.ble_eq] at hc
     obtain ⟨⟨⟨⟨⟨h1,h2⟩,h3⟩,h4⟩,h5⟩,h6⟩:=hc
     cases shEq_eq h1
     cases shEq_eq h2
     have h3:=Nat.eq_of_beq_eq_true h3
     obtain ⟨k,rfl⟩ : ∃ k : Nat,i = k:=⟨i.toNat,by omega⟩
     have hk : k ≤ xs.length:=by omega
     simp only [Int.toNat_natCast]
     refine row_spec fun w Oc us ab hlen hOc hS => ?_
     match us,hlen with
     | [u0,u1,u2],_ =>
       have e1:=(start_val hS (i:=1) rfl).int_inv
       simp at e1
       subst e1
       rcases start_own hS (i:=2) rfl with ⟨hy,_⟩ | ⟨vb,mc,M,vt,vfr,e2,q2,hv,hvf,hM,hmc,_,hin2⟩
       · rw [hy] at h3;simp at h3
       simp at e2
       subst e2
       rw [h3] at hin2 hmc
       simp only [shN,Nat.one_mul] at hM hin2
       have hM2 : 2 ≤ M.length:=by omega
       have h1M:=hin2.one (by rw [List.length_take,h3];simp [shN];omega)
       have hlen3 : (xs.take k ++ ys ++ xs.drop k).length = xs.length + 1:=by simp;omega
       rw [h3]
       rcases start_own hS (i:=0) rfl with ⟨hx,A,e0⟩ | ⟨g,c,L,et,fr,e0,q0,hg,hfr,hL,hnc,hc63,hin0⟩
       · simp at e0
         subst e0
         subst hx
         have hk0 : k = 0:=by simpa using hk
         subst hk0
         refine (ins_none w A vb mc M vt vfr hv hM2).mono fun e w' ⟨v,he,hr⟩ => ⟨v,M.take 2,he,?_,?_,?_⟩
         · rw [hlen3]
           exact hr.mono fun _ h => h.elim
         · simp [h3,shN];omega
         · simpa using hin2
       · simp at e0
         subst e0
         have hne : vb ≠ g:=by
          rintro rfl
          have:=(hS.inj _ _ _ _ _ q0 q2).1
          omega
         simp only [shN] at hL hin0
         have h1L:=hin0.one (by simp [shN];omega)
         have hown : ∀ q,q = g → ab.has q:=fun q e => ⟨0,none,by rw [e];exact q0⟩
         have hfin : RowIn w (ab.off Oc) (some 2) (xs.take k ++ ys ++ xs.drop k) (L.take (k * 2) ++ M.take 2 ++ (L.take (xs.length * 2)).drop (k * 2)).toArray:=by
          have a1:=hin0.takeL k
          have a2:=hin0.dropL k
          simp only [shN,List.take_take] at a1 a2
          rw [show min (k * 2) (xs.length * 2) = k * 2 by omega] at a1
          exact (a1.app hin2 (by simp [shN];omega)).app a2 (by simp [shN,h3];omega)
         have hlenF : (L.take (k * 2) ++ M.take 2 ++ (L.take (xs.length * 2)).drop (k * 2)).length = (xs.take k ++ ys ++ xs.drop k).length * shN (some 2):=by
          rw [hlen3];simp [shN];omega
         by_cases hkn : k = xs.length
         · have hw:=ins_end w g xs.length c L et fr vb mc M vt vfr hg hfr hL hnc hc63 h4 hv hM2 hne h1M
           subst hkn
           refine hw.mono fun e w' ⟨v,he,hr⟩ => ⟨v,L.take (xs.length * 2) ++ M.take 2 ++ (L.take (xs.length * 2)).drop (xs.length * 2),he,?_,hlenF,hfin⟩
           rw [hlen3]
           have e3 : (L.take (xs.length * 2)).drop (xs.length * 2) = []:=by rw [List.drop_eq_nil_of_le];simp;omega
           rw [e3,List.append_nil]
           exact hr.mono hown
         · by_cases hroom : xs.length + 1 ≤ c
           · refine (ins_shift w g xs.length c k L et fr vb mc M vt vfr hg hfr hL hnc hc63 h4 (by omega) hroom hv hvf hM2 hne h1M h1L).mono fun e w' ⟨v,he,hr⟩ => ⟨v,L.take (k * 2) ++ M.take 2 ++ (L.take (xs.length * 2)).drop (k * 2),he,?_,hlenF,hfin⟩
             rw [hlen3]
             exact hr.mono hown
           · refine (ins_grow w g xs.length c k L et fr vb mc M vt vfr hg hL hnc h4 (by omega) (by omega) hv hM2 h1M h1L).mono fun e w' ⟨v,he,hr⟩ => ⟨v,L.take (k * 2) ++ M.take 2 ++ (L.take (xs.length * 2)).drop (k * 2),he,?_,hlenF,hfin⟩
             rw [hlen3]
             exact hr.mono hown
   · cases hp
 · cases hp
end Go.Proofs.Ytnieankaikhmnaa

open Go Go.Ev
namespace Go.Proofs.Ytnieankaikhmnaa
open Go.RowKit Go.Shelf
set_option maxHeartbeats 4000000 in
set_option maxRecDepth 100000 in
theorem del_walk (w : World) (g n c i j : Nat) (L : List Value) (et : TypeId) (fr : Nat × Nat)
 (hg : w.heap[g]? = some (.cells L.toArray et fr)) (hfr : fr.1 = fr.2) (hL : c * 2 ≤ L.length) (hnc : n ≤ c) (hc63 : c ≤ 9223372036854775807) (hn : n ≤ 1000000) (hij : i < j) (hj : j ≤ n) (h1L : ∀ v ∈ L.take (n * 2),v.oneCell' = true) :
 Calls Try.prog 50 #[.slice (some ⟨g,0,none⟩) n c,.int .i64 i,.int .i64 j] w fun e w' => ∃ v,e = .returned v ∧ RowOut w w' (· = g) 2 (i + (n - j)) (L.take (i * 2) ++ (L.take (n * 2)).drop (j * 2)) v:=by
 obtain ⟨ie,z,hi33,hs,hb,hz,hzc⟩:=i33
 have hzs : z.cells.size = ie.size:=by rw [hzc,hs];rfl
 have hX : ((L.take (n * 2)).drop (j * 2)).length = (n - j) * 2:=by simp;omega
 have hmem1 : ∀ v ∈ (L.take (n * 2)).drop (j * 2),v.oneCell' = true:=fun v hv => h1L v (List.mem_of_mem_drop hv)
 have hXe : (L.take (n * 2)).drop (j * 2) = (L.drop (j * 2)).take ((n - j) * 2):=by
  rw [List.drop_take]
  congr 1
  omega
 have hz1 : ¬ ((i : Int) = (j : Int)):=by omega
 have mixed : Try.prog.follows .mixedOrders = true:=by kernel_rfl
 have hl0 : (over L (i * 2) ((L.take (n * 2)).drop (j * 2))).length = L.length:=over_length (by rw [hX];omega)
 have main : ∀ a : Addr,(∀ q v,((L.take (n * 2)).drop (j * 2))[q]? = some v → w.drew.cell? (a.add q) = some v) → ∃ w1 w2,(∀ mc ty,(Builtin.append_ #[27,27] ty #[.slice (some ⟨g,0,none⟩) i c,.slice (some a) (n - j) mc]).run Try.prog w.drew = .ok (.slice (some ⟨g,0,none⟩) (i + (n - j)) c) w1) ∧
  (∀ cc ty,(Builtin.clear_ #[27] ty #[.slice (some ⟨g,(i + (n - j)) * 2,none⟩) (n - (i + (n - j))) cc]).run Try.prog w1 = .ok (.tuple #[]) w2) ∧ RowOut w w2 (· = g) 2 (i + (n - j)) (L.take (i * 2) ++ (L.take (n * 2)).drop (j * 2)) (.slice (some ⟨g,0,none⟩) (i + (n - j)) c):=by
  intro a ha
  obtain ⟨w1,hr1,hc1⟩:=run_append_over (P:=Try.prog) (w:=w.drew) (ty:=27) (c:=c) (mc:=0) (n:=i) (a:=a) u27 hi33 (cs:=(L.take (n * 2)).drop (j * 2)) (m:=n - j) (by rw [hX,hs]) ha hg hfr (by rw [hX,hs];omega) (by omega) hmem1
  rw [hs] at hc1
  obtain ⟨w2,M,hr2,hc2,hm1,hm2⟩:=run_clear_over (P:=Try.prog) (w:=w1) (t:=27) (g:=g) (o:=(i + (n - j)) * 2) (n:=n - (i + (n - j))) u27 hi33 hz hzs (by rw [hzc];intro v hv;simp at hv;rw [hv];rfl) hc1.heap hfr (by rw [hl0,hs];omega)
  refine ⟨w1,w2,fun mc ty => hr1,fun cc ty => hr2 ty cc,?_⟩
  have hc:=hc1.drew.trans hc2
  refine ⟨hc.os,hc.tape,hc.output,Nat.le_of_eq hc.size.symm,fun k _ hk => hc.same k hk,.inr ⟨g,c,_,et,fr,rfl,.inl rfl,hc.heap,hfr,?_,by omega,hc63,?_⟩⟩
  · simp only [List.size_toArray]
    rw [hm1,hl0];exact hL
  · simp only [List.toList_toArray]
    have e : (i + (n - j)) * 2 = i * 2 + ((L.take (n * 2)).drop (j * 2)).length:=by rw [hX];omega
    rw [hm2,e,over_take_end (by omega)]
 by_cases hcj : c = j
 · have hnj : n - j = 0:=by omega
   obtain ⟨w1,w2,hr1,hr2,hout⟩:=main ⟨g,0,none⟩ (fun q v hq => by
    have:=(List.getElem?_eq_some_iff.1 hq).1
    rw [hX,hnj] at this
    omega)
   subst hcj
   have hnc' : n = c:=by omega
   subst hnc'
   simp only [Nat.sub_self,Nat.add_zero] at hr1 hr2 hout
   have hb2 : ¬ (n = i):=by omega
   have hb4 : (i : Int) ≤ (n : Int):=by omega
   have hb9 : i ≤ n:=by omega
   have hb11 : (0 : Int) ≤ (i : Int):=by omega
   go_enter Try.func50,Try.ntmps50
   go_wp2
   go_region_law_o (refine step_append_known rfl (.tmp 22) (.tmp 25) 27 27 rfl (.slice (some ⟨g,0,none⟩) i n) (.slice (some ⟨g,0,none⟩) 0 0) (by simp [Act.eval,Act.put]) (by simp [Act.eval,Act.put]) (hr1 0 27) ?_)
   go_wp2_with (at_builtin;refine wpList_clear_known _ rfl _ 27 rfl _ rfl _ _ (hr2 _ _) ?_)
   go_ret
   rw [Nat.sub_self,Nat.add_zero]
   exact ⟨_,rfl,hout⟩
 · obtain ⟨w1,w2,hr1,hr2,hout⟩:=main ⟨g,j * 2,none⟩ (fun q v hq => by
    rw [hXe] at hq
    exact cell_take (w:=w.drew) hg _ _ q v hq)
   have hb1 : (0 : Int) ≤ (i : Int) + ((n : Int) - (j : Int)):=by omega
   have hb2 : ¬ (c = i + (n - j)):=by omega
   have hb3 : i ≤ n:=by omega
   have hb4 : (i : Int) ≤ (n : Int):=by omega
   have hb5 : (0 : Int) ≤ ((i + (n - j) : Nat) : Int):=by omega
   have hb6 : ((i + (n - j) : Nat) : Int) ≤ (n : Int):=by omega
   have hb7 : (i : Int) ≤ (c : Int):=by omega
   have hb8 : (j : Int) ≤ (n : Int):=by omega
   have hb9 : i ≤ c:=by omega
   have hb10 : j ≤ c:=by omega
   have hb11 : (0 : Int) ≤ (i : Int):=by omega
   have hb12 : (0 : Int) ≤ (j : Int):=by omega
   go_enter Try.func50,Try.ntmps50
   go_wp2
   go_region_law_o (refine step_append_known rfl (.tmp 22) (.tmp 25) 27 27 rfl (.slice (some ⟨g,0,none⟩) i c) (.slice (some ⟨g,j * 2,none⟩) (n - j) (c - j)) (by simp [Act.eval,Act.put]) (by simp [Act.eval,Act.put]) (hr1 (c - j) 27) ?_)
   go_wp2_with (at_builtin;refine wpList_clear_known _ rfl _ 27 rfl _ rfl _ _ (hr2 _ _) ?_)
   go_ret
   exact ⟨_,rfl,hout⟩
end Go.Proofs.Ytnieankaikhmnaa

open Go Go.Ev
namespace Go.Proofs.Ytnieankaikhmnaa
open Go.RowKit Go.Shelf
set_option maxHeartbeats 4000000 in
set_option maxRecDepth 100000 in
theorem delete_spec {os : List OV} {rr : List OV × List OV} (hp : primDelete (some 2) os = some rr) : CallSpec Try.prog 50 os rr.1 rr.2:=by
 unfold primDelete at hp
 split at hp
 · rename_i sh xs sp i j
   split at hp
   · rename_i hc
     cases hp
     simp only [Bool.and_eq_true,decide_eq_true_eq,Nat.ble_eq] at hc
     obtain ⟨⟨⟨⟨h1,h4⟩,h5⟩,h6⟩,h7⟩:=hc
     cases shEq_eq h1
     obtain ⟨k,rfl⟩ : ∃ k : Nat,i = k:=⟨i.toNat,by omega⟩
     obtain ⟨q,rfl⟩ : ∃ q : Nat,j = q:=⟨j.toNat,by omega⟩
     have hk : k < q:=by omega
     have hq : q ≤ xs.length:=by omega
     simp only [Int.toNat_natCast]
     refine row_spec fun w Oc us ab hlen hOc hS => ?_
     match us,hlen with
     | [u0,u1,u2],_ =>
       have e1:=(start_val hS (i:=1) rfl).int_inv
       have e2:=(start_val hS (i:=2) rfl).int_inv
       simp at e1 e2
       subst e1
       subst e2
       rcases start_own hS (i:=0) rfl with ⟨hx,A,e0⟩ | ⟨g,c,L,et,fr,e0,q0,hg,hfr,hL,hnc,hc63,hin0⟩
       · subst hx
         simp at hq
         omega
       · simp at e0
         subst e0
         simp only [shN] at hL hin0
         have h1L:=hin0.one (by simp [shN];omega)
         have hown : ∀ q,q = g → ab.has q:=fun q e => ⟨0,none,by rw [e];exact q0⟩
         have a1:=hin0.takeL k
         have a2:=hin0.dropL q
         simp only [shN,List.take_take] at a1 a2
         rw [show min (k * 2) (xs.length * 2) = k * 2 by omega] at a1
         refine (del_walk w g xs.length c k q L et fr hg hfr hL hnc hc63 h4 hk hq h1L).mono fun e w' ⟨v,he,hr⟩ => ⟨v,L.take (k * 2) ++ (L.take (xs.length * 2)).drop (q * 2),he,?_,?_,a1.app a2 (by simp [shN];omega)⟩
         · have : (xs.take k ++ xs.drop q).length = k + (xs.length - q):=by simp;omega
           rw [this]
           exact hr.mono hown
         · simp [shN];omega
   · cases hp
 · cases hp
section
variable (w : World) (g n c i j m : Nat) (L : List Value) (et : TypeId) (fr : Nat × Nat) (vb mc : Nat) (M : List Value) (vt : TypeId) (vfr : Nat × Nat)
 (hg : w.heap[g]? = some (.cells L.toArray et fr)) (hfr : fr.1 = fr.2) (hL : c ≤ L.length) (hnc : n ≤ c) (hc63 : c ≤ 9223372036854775807) (hn : n ≤ 1000000) (hij : i < j) (hm0 : 0 < m) (hm1 : m ≤ 1000)
 (hv : w.heap[vb]? = some (.cells M.toArray vt vfr)) (hvf : vfr.1 = vfr.2) (hM : m ≤ M.length) (hne : vb ≠ g) (h1M : ∀ v ∈ M.take m,v.oneCell' = true) (h1L : ∀ v ∈ L.take n,v.oneCell' = true)
include hg hfr hL hnc hc63 hn hij hm0 hm1 hv hvf hM hne h1M h1L
set_option maxHeartbeats 4000000 in
set_option maxRecDepth 100000 in
theorem rep_end (hj : j = n) :
 Calls Try.prog 48 #[.slice (some ⟨g,0,none⟩) n c,.int .i64 i,.int .i64 j,.slice (some ⟨vb,0,none⟩) m mc] w fun e w' => ∃ v,e = .returned v ∧ RowOut w w' (· = g) 1 (i + m) (L.take i ++ M.take m) v:=by
 subst hj
 obtain ⟨ie,z,hi55,hs,hb,hz,hzc⟩:=i55
 have hzs : z.cells.size = ie.size:=by rw [hzc,hs];rfl
 have hz1 : ¬ ((i : Int) = (j : Int)):=by omega
 have hml : (M.take m).length = m * ie.size:=by rw [List.length_take,hs];omega
 have hmc : ∀ (w : World),w.heap[vb]? = some (.cells M.toArray vt vfr) → ∀ q v,(M.take m)[q]? = some v → w.cell? ((⟨vb,0,none⟩ : Addr).add q) = some v:=fun w hv q v hq => by
  have:=cell_take hv 0 m q v (by simpa using hq)
  exact this
 have hb1 : (0 : Int) ≤ (i : Int):=by omega
 have hb2 : (i : Int) ≤ (j : Int):=by omega
 have hb3 : i ≤ j:=by omega
 have hb4 : (i : Int) ≤ (c : Int):=by omega
 have hb5 : i ≤ c:=by omega
 by_cases hroom : i + m ≤ c
 · obtain ⟨w1,hr,hchg⟩:=run_append_over (P:=Try.prog) (w:=w) (t:=61) (ty:=61) (c:=c) (mc:=mc) (n:=i) (a:=⟨vb,0,none⟩) u61 hi55 (cs:=M.take m) (m:=m) hml (hmc w hv) hg hfr (by rw [hml,hs];omega) hroom h1M
   rw [hs,Nat.mul_one] at hchg
   have hl1 : (over L i (M.take m)).length = L.length:=over_length (by rw [hml,hs];omega)
   by_cases hsm : i + m < j
   · obtain ⟨w2,N,hr2,hc2,hn1,hn2⟩:=run_clear_over (P:=Try.prog) (w:=w1) (t:=61) (g:=g) (o:=i + m) (n:=j - (i + m)) u61 hi55 hz hzs (by rw [hzc];intro v hv;simp at hv;rw [hv];rfl) hchg.heap hfr (by rw [hl1,hs];omega)
     have hc:=hchg.trans hc2
     have hb6 : ((i : Int) + (m : Int)) < (j : Int):=by omega
     have hb7 : (0 : Int) ≤ (i : Int) + (m : Int):=by omega
     have hb8 : ¬ (c = i + m):=by omega
     have hb9 : ((i : Int) + (m : Int)) ≤ (j : Int):=by omega
     go_enter Try.func48,Try.ntmps48
     go_wp2_with (first | (at_builtin;refine Lib.wpList_append_run _ rfl _ _ _ _ rfl _ _ rfl rfl _ _ hr ?_) | (at_builtin;refine wpList_clear_known _ rfl _ 61 rfl _ rfl _ _ (hr2 _ _) ?_))
     go_ret
     refine ⟨_,rfl,⟨hc.os,hc.tape,hc.output,Nat.le_of_eq hc.size.symm,fun k _ hk => hc.same k hk,.inr ⟨g,c,_,et,fr,rfl,.inl rfl,hc.heap,hfr,?_,hroom,hc63,?_⟩⟩⟩
     · simp only [List.size_toArray]
       rw [hn1,hl1];omega
     · simp only [Nat.mul_one]
       have e : i + m = i + (M.take m).length:=by rw [hml,hs];omega
       rw [hn2,e,over_take_end (by omega)]
   · have hb6 : ¬ (((i : Int) + (m : Int)) < (j : Int)):=by omega
     go_enter Try.func48,Try.ntmps48
     go_wp2_with (at_builtin;refine Lib.wpList_append_run _ rfl _ _ _ _ rfl _ _ rfl rfl _ _ hr ?_)
     go_ret
     refine ⟨_,rfl,⟨hchg.os,hchg.tape,hchg.output,Nat.le_of_eq hchg.size.symm,fun k _ hk => hchg.same k hk,.inr ⟨g,c,_,et,fr,rfl,.inl rfl,hchg.heap,hfr,?_,hroom,hc63,?_⟩⟩⟩
     · simp only [List.size_toArray]
       rw [hl1];omega
     · simp only [Nat.mul_one]
       have e : i + m = i + (M.take m).length:=by rw [hml,hs];omega
       rw [e,over_take_end (by omega)]
 · obtain ⟨cap,w1,N,hr,hcap,hc64,h1,h2,h3,h4,h5,h6,h7,h8⟩:=run_append_new (P:=Try.prog) (w:=w) (t:=61) (ty:=61) (c:=c) (mc:=mc) (n:=i) (b:=⟨g,0,none⟩) (a:=⟨vb,0,none⟩) (m:=m) u61 hi55 hz hzs (olds:=L.take i) (news:=M.take m) (by rw [List.length_take,hs];omega) (fun q v hq => by
    have:=cell_take hg 0 i q v (by simpa using hq)
    exact this) hml (hmc w hv) (by omega) (by omega) (by rw [hb];omega)
   have hb6 : ¬ (((i : Int) + (m : Int)) < (j : Int)):=by omega
   go_enter Try.func48,Try.ntmps48
   go_wp2_with (at_builtin;refine Lib.wpList_append_run _ rfl _ _ _ _ rfl _ _ rfl rfl _ _ hr ?_)
   go_ret
   refine ⟨_,rfl,⟨h1,h2,h3,by omega,fun k hk _ => h5 k hk,.inr ⟨w.heap.size,cap,_,55,(0,0),rfl,.inr (Nat.le_refl _),h6,rfl,?_,hcap,hc64,?_⟩⟩⟩
   · simp only [List.size_toArray]
     rw [h7,hs];exact Nat.le_refl _
   · rw [hs] at h8;exact h8
end
end Go.Proofs.Ytnieankaikhmnaa

