/- What the functions answer, and the laws. -/
import Derived.Test.YtnieankaikhmnaaVg

set_option linter.unusedVariables false

set_option linter.unusedSimpArgs false

set_option linter.unusedSectionVars false

open Go Go.Ev
namespace Go.Proofs.Ytnieankaikhmnaa
open Go.RowKit Go.Shelf
section
variable (w : World) (g n c i j m : Nat) (L : List Value) (et : TypeId) (fr : Nat × Nat) (vb mc : Nat) (M : List Value) (vt : TypeId) (vfr : Nat × Nat)
 (hg : w.heap[g]? = some (.cells L.toArray et fr)) (hfr : fr.1 = fr.2) (hL : c ≤ L.length) (hnc : n ≤ c) (hc63 : c ≤ 9223372036854775807) (hn : n ≤ 1000000) (hij : i < j) (hm0 : 0 < m) (hm1 : m ≤ 1000)
 (hv : w.heap[vb]? = some (.cells M.toArray vt vfr)) (hvf : vfr.1 = vfr.2) (hM : m ≤ M.length) (hne : vb ≠ g) (h1M : ∀ v ∈ M.take m,v.oneCell' = true) (h1L : ∀ v ∈ L.take n,v.oneCell' = true)
include hg hfr hL hnc hc63 hn hij hm0 hm1 hv hvf hM hne h1M h1L
set_option maxHeartbeats 4000000 in
set_option maxRecDepth 100000 in
theorem rep_shift (hj : j < n) (hroom : i + m + (n - j) ≤ c) (hfit : j < i + m) :
 Calls Try.prog 48 #[.slice (some ⟨g,0,none⟩) n c,.int .i64 i,.int .i64 j,.slice (some ⟨vb,0,none⟩) m mc] w fun e w' => ∃ v,e = .returned v ∧ RowOut w w' (· = g) 1 (i + m + (n - j)) (L.take i ++ M.take m ++ (L.take n).drop j) v:=by
 obtain ⟨ie,z,hi55,hs,hb,hz,hzc⟩:=i55
 have hzs : z.cells.size = ie.size:=by rw [hzc,hs];rfl
 have hz1 : ¬ ((i : Int) = (j : Int)):=by omega
 have hz2 : ¬ ((j : Int) = (n : Int)):=by omega
 have hml : (M.take m).length = m * ie.size:=by rw [List.length_take,hs];omega
 obtain ⟨T,hT⟩ : ∃ T,T = i + m + (n - j):=⟨_,rfl⟩
 have hX : ((L.drop j).take (n - j)).length = n - j:=by simp;omega
 have hXe : (L.drop j).take (n - j) = (L.take n).drop j:=by rw [List.drop_take]
 have hmem1 : ∀ v ∈ (L.drop j).take (n - j),v.oneCell' = true:=by
  intro v hv'
  rw [hXe] at hv'
  exact h1L v (List.mem_of_mem_drop hv')
 have hov : ∀ (W : World),W.heap = w.heap → ∀ lb cb,(callFunc 61 #[.slice (some ⟨g,i + m,none⟩) lb cb,.slice (some ⟨vb,0,none⟩) m mc]).run Try.prog W = .ok (.value (.bool false)) W:=fun W hW lb cb => by
  rw [run_callFunc_extern Try.func61 (by kernel_rfl) (by kernel_rfl) (by kernel_rfl) (e:=Extern.SlicesOverlaps.overlaps #[61,61] #[4]) (by kernel_rfl),
   run_overlaps_no W 61 4 55 u61 hi55 (Ne.symm hne) (by rw [hW];exact hg) hfr (by rw [hW];exact hv) (by rw [List.size_toArray];omega)]
  rfl
 have hov1:=hov w.drew rfl
 obtain ⟨w1,hr1,hc1⟩:=run_copy_over (P:=Try.prog) (w:=w.drew.drew) (dT:=61) (sT:=61) (dLen:=T - (i + m)) (sLen:=n - j) (m:=n - j) (a:=⟨g,j,none⟩) (o:=i + m) u61 hi55 (by omega) (cs:=(L.drop j).take (n - j)) (by rw [hX,hs,Nat.mul_one]) (cell_take (w:=w.drew.drew) hg _ _) hg hfr (by rw [hX];omega) hmem1
 have hl1 : (over L (i + m) ((L.drop j).take (n - j))).length = L.length:=over_length (by rw [hX];omega)
 have hv1 : w1.heap[vb]? = some (.cells M.toArray vt vfr):=by rw [hc1.same vb hne];exact hv
 obtain ⟨w2,hr2,hc2⟩:=run_copy_over (P:=Try.prog) (w:=w1) (dT:=61) (sT:=61) (dLen:=T - i) (sLen:=m) (m:=m) (a:=⟨vb,0,none⟩) (o:=i) u61 hi55 (by omega) (cs:=M.take m) hml (fun q v hq => by
  have:=cell_take hv1 0 m q v (by simpa using hq)
  exact this) hc1.heap hfr (by rw [hl1,hml,hs];omega) h1M
 have hl2 : (over (over L (i + m) ((L.drop j).take (n - j))) i (M.take m)).length = L.length:=by rw [over_length (by rw [hl1,hml,hs];omega),hl1]
 have hfin : (over (over L (i + m) ((L.drop j).take (n - j))) i (M.take m)).take T = L.take i ++ M.take m ++ (L.take n).drop j:=by
  have e1 : T = (i + (M.take m).length) + (n - j):=by rw [hml,hs];omega
  have e2 : i + (M.take m).length = i + m:=by rw [hml,hs];omega
  rw [e1,List.take_add,over_take_end (by rw [hl1];omega),over_drop (Nat.le_refl _) (by rw [hl1,hml,hs];omega),over_take (by omega) (by omega),e2]
  congr 1
  unfold over
  rw [List.append_assoc,List.drop_left' (by simp;omega),List.take_left' hX,hXe]
 have mixed : Try.prog.follows .mixedOrders = true:=by kernel_rfl
 have hb1 : (0 : Int) ≤ (i : Int):=by omega
 have hb2 : (i : Int) ≤ (c : Int):=by omega
 have hb3 : (j : Int) ≤ (n : Int):=by omega
 have hb4 : (0 : Int) ≤ (j : Int):=by omega
 have hb5 : i ≤ c:=by omega
 have hb6 : j ≤ n:=by omega
 have hb7 : ¬ (c = j):=by omega
 have hb8 : ¬ (c = i):=by omega
 have hb9 : ¬ (c = i + m):=by omega
 have hb10 : IntKind.i64.wrap ((i : Int) + (m : Int)) = (i : Int) + (m : Int):=by rw [IntKind.wrap_i64];omega
 have hb11 : (0 : Int) ≤ (i : Int) + (m : Int):=by omega
 have hb12 : ((i : Int) + (m : Int)).toNat = i + m:=by omega
 have hb13 : (i : Int) + (m : Int) + ((n - j : Nat) : Int) = (T : Int):=by omega
 have hb14 : IntKind.i64.wrap ((i : Int) + (m : Int) + ((n - j : Nat) : Int)) = (T : Int):=by rw [IntKind.wrap_i64];omega
 have hb15 : ¬ ((c : Int) < (T : Int)):=by omega
 have hb16 : (i : Int) ≤ (T : Int):=by omega
 have hb17 : (i : Int) + (m : Int) ≤ (T : Int):=by omega
 have hb18 : i ≤ T:=by omega
 have hb19 : i + m ≤ T:=by omega
 have hb20 : (i : Int) ≤ (j : Int):=by omega
 have hb21 : (T : Int) ≤ (c : Int):=by omega
 have hb22 : T ≤ c:=by omega
 have hb23 : (0 : Int) ≤ (T : Int):=by omega
 have hb24 : ¬ ((i : Int) + (m : Int) ≤ (j : Int)):=by omega
 rw [← hT]
 have hTa : T ≤ i + m + (n - j):=by omega
 have hTb : i + m + (n - j) ≤ T:=by omega
 clear hT
 go_enter Try.func48,Try.ntmps48
 go_wp2
 go_region_law_o (fail)
 all_goals go_wp2_with (simp only [hov1])
 all_goals go_region_law_o (refine step_copy_runI rfl (.tmp 126) (.tmp 129) 61 61 rfl (.slice (some ⟨g,i + m,none⟩) (T - (i + m)) (c - (i + m))) (.slice (some ⟨g,j,none⟩) (n - j) (c - j)) (by simp [Act.eval,Act.put]) (by simp [Act.eval,Act.put]) (hr1 3 (c - (i + m)) (c - j)) ?_)
 all_goals go_wp2_with (at_builtin;refine wpList_copy_runI _ rfl _ _ 61 61 rfl _ _ rfl rfl (hr2 _ _ _) ?_)
 all_goals go_ret
 all_goals
  have hc:=(hc1.drew.drew).trans hc2
  refine ⟨_,rfl,⟨hc.os,hc.tape,hc.output,Nat.le_of_eq hc.size.symm,fun k _ hk => hc.same k hk,.inr ⟨g,c,_,et,fr,rfl,.inl rfl,hc.heap,hfr,?_,by omega,hc63,?_⟩⟩⟩
  · simp only [List.size_toArray]
    rw [hl2];omega
  · simp only [Nat.mul_one]
    rw [hfin]
end
end Go.Proofs.Ytnieankaikhmnaa

