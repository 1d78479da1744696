/- What the functions answer, and the laws. -/
import Derived.Test.YtnieankaikhmnaaV
import Derived.Deep.RegionHeld3
import Derived.Deep.DrawnRows

set_option linter.unusedVariables false

set_option linter.unusedSimpArgs false

set_option linter.unusedSectionVars false

open Go Go.Ev
namespace Go.Proofs.Ytnieankaikhmnaa
open Go.RowKit Go.Shelf
section
variable (w : World) (g n c i j m : Nat) (L : List Value) (et : TypeId) (fr : Nat × Nat) (vb mc : Nat) (M : List Value) (vt : TypeId) (vfr : Nat × Nat)
 (hg : w.heap[g]? = some (.cells L.toArray et fr)) (hfr : fr.1 = fr.2) (hL : c ≤ L.length) (hnc : n ≤ c) (hc63 : c ≤ 9223372036854775807) (hn : n ≤ 1000000) (hij : i < j) (hm0 : 0 < m) (hm1 : m ≤ 1000)
 (hv : w.heap[vb]? = some (.cells M.toArray vt vfr)) (hvf : vfr.1 = vfr.2) (hM : m ≤ M.length) (hne : vb ≠ g) (h1M : ∀ v ∈ M.take m,v.oneCell' = true) (h1L : ∀ v ∈ L.take n,v.oneCell' = true)
include hg hfr hL hnc hc63 hn hij hm0 hm1 hv hvf hM hne h1M h1L
set_option maxHeartbeats 4000000 in
set_option maxRecDepth 100000 in
theorem rep_grow (hj : j < n) (hroom : c < i + m + (n - j)) :
 Calls Try.prog 48 #[.slice (some ⟨g,0,none⟩) n c,.int .i64 i,.int .i64 j,.slice (some ⟨vb,0,none⟩) m mc] w fun e w' => ∃ v,e = .returned v ∧ RowOut w w' (· = g) 1 (i + m + (n - j)) (L.take i ++ M.take m ++ (L.take n).drop j) v:=by
 obtain ⟨ie,z,hi55,hs,hb,hz,hzc⟩:=i55
 have hzs : z.cells.size = ie.size:=by rw [hzc,hs];rfl
 have hz1 : ¬ ((i : Int) = (j : Int)):=by omega
 have hz2 : ¬ ((j : Int) = (n : Int)):=by omega
 have hml : (M.take m).length = m * ie.size:=by rw [List.length_take,hs];omega
 obtain ⟨T,hT⟩ : ∃ T,T = i + m + (n - j):=⟨_,rfl⟩
 obtain ⟨cap,w1,N,hr,hcap,hc64,o1,o2,o3,o4,o5,o6,o7,o8⟩:=run_append_zeros_grow (P:=Try.prog) (w:=w.drew) (t:=61) (tn:=3) (ty:=61) (k0 := .i64) (c:=c) (n:=i) (k:=T - i) (b:=⟨g,0,none⟩) (olds:=L.take i) u61 u3 hi55 hz hzs (by rw [List.length_take,hs];omega) (fun q v hq => by
  have:=cell_take (w:=w.drew) hg 0 i q v (by simpa using hq)
  exact this) (by omega) (by omega) (by omega) (by omega) (by rw [hb];omega)
 have hk : ((T - i : Nat) : Int) = (T : Int) - (i : Int):=by omega
 have hsum : i + (T - i) = T:=by omega
 rw [hk,hsum] at hr
 have o4 : w1.heap.size = w.heap.size + 1:=o4
 have o5 : ∀ q,q < w.heap.size → w1.heap[q]? = w.heap[q]?:=o5
 have o6 : w1.heap[w.heap.size]? = some (.cells N.toArray 55 (0,0)):=o6
 have hr : ∀ ty,(Builtin.append_ #[61,3] ty #[.slice (some ⟨g,0,none⟩) i c,.int .i64 ((T : Int) - (i : Int))]).run Try.prog w.drew = .ok (.slice (some ⟨w.heap.size,0,none⟩) T cap) w1:=fun ty => hr
 have hlt : g < w.heap.size:=(Array.getElem?_eq_some_iff.1 hg).1
 have hvlt : vb < w.heap.size:=(Array.getElem?_eq_some_iff.1 hv).1
 have hg1 : w1.heap[g]? = some (.cells L.toArray et fr):=by rw [o5 g hlt];exact hg
 have hv1 : w1.heap[vb]? = some (.cells M.toArray vt vfr):=by rw [o5 vb hvlt];exact hv
 obtain ⟨w2,hr2,hc2⟩:=run_copy_over (P:=Try.prog) (w:=w1) (dT:=61) (sT:=61) (dLen:=T - i) (sLen:=m) (m:=m) (a:=⟨vb,0,none⟩) (o:=i) u61 hi55 (by omega) (cs:=M.take m) hml (fun q v hq => by
  have:=cell_take hv1 0 m q v (by simpa using hq)
  exact this) o6 rfl (by rw [o7,hml,hs];omega) h1M
 have hg2 : w2.drew.heap[g]? = some (.cells L.toArray et fr):=by
  show w2.heap[g]? = _
  rw [hc2.same g (by omega)];exact hg1
 have hX : ((L.drop j).take (n - j)).length = n - j:=by simp;omega
 have hXe : (L.drop j).take (n - j) = (L.take n).drop j:=by rw [List.drop_take]
 have hmem1 : ∀ v ∈ (L.drop j).take (n - j),v.oneCell' = true:=by
  intro v hv'
  rw [hXe] at hv'
  exact h1L v (List.mem_of_mem_drop hv')
 have hl2 : (over N i (M.take m)).length = N.length:=over_length (by rw [o7,hml,hs];omega)
 obtain ⟨w3,hr3,hc3⟩:=run_copy_over (P:=Try.prog) (w:=w2.drew) (dT:=61) (sT:=61) (dLen:=T - (i + m)) (sLen:=n - j) (m:=n - j) (a:=⟨g,j,none⟩) (o:=i + m) u61 hi55 (by omega) (cs:=(L.drop j).take (n - j)) (by rw [hX,hs,Nat.mul_one]) (cell_take hg2 _ _) hc2.heap rfl (by rw [hl2,hX,o7,hs];omega) hmem1
 have mixed : Try.prog.follows .mixedOrders = true:=by kernel_rfl
 have hb1 : (0 : Int) ≤ (i : Int):=by omega
 have hb2 : (i : Int) ≤ (c : Int):=by omega
 have hb3 : (j : Int) ≤ (n : Int):=by omega
 have hb4 : (0 : Int) ≤ (j : Int):=by omega
 have hb5 : i ≤ c:=by omega
 have hb6 : j ≤ n:=by omega
 have hb7 : ¬ (c = j):=by omega
 have hb8 : ¬ (cap = i):=by omega
 have hb9 : ¬ (cap = i + m):=by omega
 have hb10 : IntKind.i64.wrap ((i : Int) + (m : Int)) = (i : Int) + (m : Int):=by rw [IntKind.wrap_i64];omega
 have hb11 : (0 : Int) ≤ (i : Int) + (m : Int):=by omega
 have hb12 : ((i : Int) + (m : Int)).toNat = i + m:=by omega
 have hb13 : (i : Int) + (m : Int) + ((n - j : Nat) : Int) = (T : Int):=by omega
 have hb14 : IntKind.i64.wrap ((i : Int) + (m : Int) + ((n - j : Nat) : Int)) = (T : Int):=by rw [IntKind.wrap_i64];omega
 have hb15 : (c : Int) < (T : Int):=by omega
 have hb16 : (i : Int) ≤ (T : Int):=by omega
 have hb17 : (i : Int) + (m : Int) ≤ (T : Int):=by omega
 have hb18 : i ≤ T:=by omega
 have hb19 : i + m ≤ T:=by omega
 have hb20 : (i : Int) ≤ (j : Int):=by omega
 rw [← hT]
 have hTa : T ≤ i + m + (n - j):=by omega
 have hTb : i + m + (n - j) ≤ T:=by omega
 clear hT
 go_enter Try.func48,Try.ntmps48
 go_wp2
 go_region_law_o (fail)
 go_wp2_with (first | (at_builtin;refine Lib.wpList_append_run _ rfl _ _ _ _ rfl _ _ rfl rfl _ _ (hr _) ?_) | (at_builtin;refine wpList_copy_runI _ rfl _ _ 61 61 rfl _ _ rfl rfl (hr2 _ _ _) ?_))
 all_goals go_region_law_o (refine step_copy_runI rfl (.tmp 78) (.tmp 81) 61 61 rfl (.slice (some ⟨w.heap.size,i + m,none⟩) (T - (i + m)) (cap - (i + m))) (.slice (some ⟨g,j,none⟩) (n - j) (c - j)) (by simp [Act.eval,Act.put]) (by simp [Act.eval,Act.put]) (hr3 3 (cap - (i + m)) (c - j)) ?_)
 all_goals go_wp2
 all_goals go_ret
 all_goals
  have e3:=hc3.drew
  have hlen3 : (over (over N i (M.take m)) (i + m) ((L.drop j).take (n - j))).length = N.length:=by rw [over_length (by rw [hl2,hX,o7,hs];omega),hl2]
  refine ⟨_,rfl,⟨e3.os.trans (hc2.os.trans o1),e3.tape.trans (hc2.tape.trans o2),e3.output.trans (hc2.output.trans o3),by rw [e3.size,hc2.size,o4];omega,fun k hk _ => by rw [e3.same k (by omega),hc2.same k (by omega),o5 k hk],.inr ⟨w.heap.size,cap,_,55,(0,0),rfl,.inr (Nat.le_refl _),e3.heap,rfl,?_,by omega,hc64,?_⟩⟩⟩
  · simp only [List.size_toArray]
    rw [hlen3,o7,hs]
    exact Nat.le_refl _
  · simp only [Nat.mul_one]
    have e1 : T = i + m + ((L.drop j).take (n - j)).length:=by rw [hX];omega
    have e2 : i + m = i + (M.take m).length:=by rw [hml,hs];omega
    have o8' : N.take i = L.take i:=by rw [hs,Nat.mul_one] at o8;exact o8
    rw [e1,over_take_end (by rw [hl2,o7,hs];omega),e2,over_take_end (by rw [o7,hs];omega),o8',← hXe]
end
end Go.Proofs.Ytnieankaikhmnaa

