/- What the functions answer, and the laws. -/
import Derived.Test.YtnieankaikhmnaaVh

set_option linter.unusedVariables false

set_option linter.unusedSimpArgs false

set_option linter.unusedSectionVars false

open Go Go.Ev
namespace Go.Proofs.Ytnieankaikhmnaa
open Go.RowKit Go.Shelf
theorem replace_spec {os : List OV} {rr : List OV × List OV} (hp : primReplace none os = some rr) : CallSpec Try.prog 48 os rr.1 rr.2:=by
 unfold primReplace at hp
 split at hp
 · rename_i sh xs sp i j sh' ys sq
   split at hp
   · rename_i hc
     cases hp
     simp only [Bool.and_eq_true,decide_eq_true_eq,Nat.ble_eq,Nat.blt_eq] at hc
     obtain ⟨⟨⟨⟨⟨⟨⟨h1,h2⟩,h3⟩,h3'⟩,h4⟩,h5⟩,h6⟩,h7⟩:=hc
     cases shEq_eq h1
     cases shEq_eq h2
     obtain ⟨k,rfl⟩ : ∃ k : Nat,i = k:=⟨i.toNat,by omega⟩
     obtain ⟨q,rfl⟩ : ∃ q : Nat,j = q:=⟨j.toNat,by omega⟩
     have hk : k < q:=by omega
     have hq : q ≤ xs.length:=by omega
     simp only [Int.toNat_natCast]
     refine row_spec fun w Oc us ab hlen hOc hS => ?_
     match us,hlen with
     | [u0,u1,u2,u3],_ =>
       have e1:=(start_val hS (i:=1) rfl).int_inv
       have e2:=(start_val hS (i:=2) rfl).int_inv
       simp at e1 e2
       subst e1
       subst e2
       rcases start_own hS (i:=3) rfl with ⟨hy,_⟩ | ⟨vb,mc,M,vt,vfr,e3,q3,hv,hvf,hM,hmc,_,hin3⟩
       · rw [hy] at h3;simp at h3
       simp at e3
       subst e3
       simp only [shN,Nat.mul_one] at hM hin3
       have h1M:=hin3.one (by rw [List.length_take];simp [shN];omega)
       rcases start_own hS (i:=0) rfl with ⟨hx,A,e0⟩ | ⟨g,c,L,et,fr,e0,q0,hg,hfr,hL,hnc,hc63,hin0⟩
       · subst hx
         simp at hq
         omega
       · simp at e0
         subst e0
         have hne : vb ≠ g:=by
          rintro rfl
          have:=(hS.inj _ _ _ _ _ q0 q3).1
          omega
         simp only [shN,Nat.mul_one] at hL hin0
         have h1L:=hin0.one (by simp [shN];omega)
         have hown : ∀ q,q = g → ab.has q:=fun q e => ⟨0,none,by rw [e];exact q0⟩
         have a1:=hin0.takeL k
         have a2:=hin0.dropL q
         simp only [shN,List.take_take,Nat.mul_one] at a1 a2
         rw [show min k xs.length = k by omega] at a1
         have hfin : RowIn w (ab.off Oc) none (xs.take k ++ ys ++ xs.drop q) (L.take k ++ M.take ys.length ++ (L.take xs.length).drop q).toArray :=
          (a1.app hin3 (by simp [shN];omega)).app a2 (by simp [shN];omega)
         have hlenF : (L.take k ++ M.take ys.length ++ (L.take xs.length).drop q).length = (xs.take k ++ ys ++ xs.drop q).length * shN none:=by
          simp [shN];omega
         have hlen3 : (xs.take k ++ ys ++ xs.drop q).length = k + ys.length + (xs.length - q):=by simp;omega
         by_cases hqn : q = xs.length
         · refine (rep_end w g xs.length c k q ys.length L et fr vb mc M vt vfr hg hfr hL hnc hc63 h4 hk h3 h3' hv hvf (Nat.le_trans hmc hM) hne h1M h1L hqn).mono fun e w' ⟨v,he,hr⟩ => ⟨v,_,he,?_,hlenF,hfin⟩
           have e3 : (L.take xs.length).drop q = []:=by rw [List.drop_eq_nil_of_le];simp;omega
           rw [hlen3,e3,List.append_nil,show k + ys.length + (xs.length - q) = k + ys.length by omega]
           exact hr.mono hown
         · by_cases hroom : c < k + ys.length + (xs.length - q)
           · refine (rep_grow w g xs.length c k q ys.length L et fr vb mc M vt vfr hg hfr hL hnc hc63 h4 hk h3 h3' hv hvf (Nat.le_trans hmc hM) hne h1M h1L (by omega) hroom).mono fun e w' ⟨v,he,hr⟩ => ⟨v,_,he,?_,hlenF,hfin⟩
             rw [hlen3]
             exact hr.mono hown
           · by_cases hfit : k + ys.length ≤ q
             · refine (rep_fit w g xs.length c k q ys.length L et fr vb mc M vt vfr hg hfr hL hnc hc63 h4 hk h3 h3' hv hvf (Nat.le_trans hmc hM) hne h1M h1L (by omega) (by omega) hfit).mono fun e w' ⟨v,he,hr⟩ => ⟨v,_,he,?_,hlenF,hfin⟩
               rw [hlen3]
               exact hr.mono hown
             · refine (rep_shift w g xs.length c k q ys.length L et fr vb mc M vt vfr hg hfr hL hnc hc63 h4 hk h3 h3' hv hvf (Nat.le_trans hmc hM) hne h1M h1L (by omega) (by omega) (by omega)).mono fun e w' ⟨v,he,hr⟩ => ⟨v,_,he,?_,hlenF,hfin⟩
               rw [hlen3]
               exact hr.mono hown
   · cases hp
 · cases hp
end Go.Proofs.Ytnieankaikhmnaa

open Go Go.Ev
namespace Go.Proofs.Ytnieankaikhmnaa
open Go.RowKit Go.Shelf
set_option maxHeartbeats 4000000 in
set_option maxRecDepth 100000 in
theorem cloneE_nil (w : World) (n c : Nat) : Calls Try.prog 44 #[.slice none n c] w fun e w' => e = .returned (.slice none 0 0) ∧ w' = w:=by
 have hq : ∀ w,(binOp .eql 27 (.slice none n c) (.slice none 0 0)).run Try.prog w = .ok (.bool true) w:=fun w => Lib.run_eql_slice_nil (P:=Try.prog) w 27 33 none n c 0 0 u27
 go_enter Try.func44,Try.ntmps44
 go_wp2_with (simp only [hq])
 go_ret
 simp
set_option maxHeartbeats 4000000 in
set_option maxRecDepth 100000 in
theorem cloneE_some (w : World) (a : Addr) (n c : Nat) (hn : n ≤ 1000000) (L : List Value) (hl : L.length = n * 2) (hc : ∀ j v,L[j]? = some v → w.cell? (a.add j) = some v) :
 Calls Try.prog 44 #[.slice (some a) n c] w fun e w' => ∃ v,e = .returned v ∧ RowOut w w' (fun _ => False) 2 n L v:=by
 obtain ⟨ie,z,hi,hs,hb,hz,hzc⟩:=i33
 have hzs : z.cells.size = ie.size:=by rw [hzc,hs];rfl
 have hq : ∀ w,(binOp .eql 27 (.slice (some a) n c) (.slice none 0 0)).run Try.prog w = .ok (.bool false) w:=fun w => Lib.run_eql_slice_nil (P:=Try.prog) w 27 33 (some a) n c 0 0 u27
 have hc1 : ∀ j v,L[j]? = some v → (w.alloc (.cells #[] 33)).cell? (a.add j) = some v:=fun j v hj => by
  have h1:=hc j v hj
  have hlt:=cell_lt h1
  rw [cell_same (w:=w) (heap_old w _ hlt)]
  exact h1
 have hsz : (w.alloc (.cells #[] 33)).heap.size = w.heap.size + 1:=by
  show (w.heap.push _).size = _
  simp
 by_cases h0 : n = 0
 · subst h0
   have hr : ∀ ty,(Builtin.append_ #[27,27] ty #[.slice (some ⟨w.heap.size,0,none⟩) 0 0,.slice (some a) 0 c]).run Try.prog (w.alloc (.cells #[] 33)) = .ok (.slice (some ⟨w.heap.size,0,none⟩) 0 0) (w.alloc (.cells #[] 33)):=fun ty => by
    simp [Builtin.append_,run_underlying u27,Go.sizeOf,typeInfo,hi,Builtin.lenOf,Builtin.firstCells,Go.loadCells,Go.loadCellsFrom,Go.storeCells]
   go_enter Try.func44,Try.ntmps44
   go_wp2_with (first | simp only [hq] | (at_builtin;refine Lib.wpList_append_run _ rfl _ _ _ _ rfl _ _ rfl rfl _ _ (hr _) ?_))
   go_ret
   exact ⟨_,rfl,rfl,rfl,rfl,by rw [hsz];omega,fun k hk _ => heap_old w _ hk,.inl ⟨rfl,_,rfl⟩⟩
 · obtain ⟨cap,w1,N,hr,hcap,hc64,h1,h2,h3,h4,h5,h6,h7,h8⟩:=run_append_new0 (P:=Try.prog) (w:=w.alloc (.cells #[] 33)) (t:=27) (ty:=27) (mc:=c) (A:=some ⟨w.heap.size,0,none⟩) (a:=a) (m:=n) u27 hi hz hzs (news:=L) (by rw [hl,hs]) hc1 (by omega) (by omega) (by rw [hb];omega)
   go_enter Try.func44,Try.ntmps44
   go_wp2_with (first | simp only [hq] | (at_builtin;refine Lib.wpList_append_run _ rfl _ _ _ _ rfl _ _ rfl rfl _ _ hr ?_))
   go_ret
   rw [hsz] at h6
   refine ⟨_,rfl,⟨h1,h2,h3,by rw [h4,hsz];omega,fun k hk _ => by rw [h5 k (by rw [hsz];omega),heap_old w _ hk],.inr ⟨_,cap,_,33,(0,0),rfl,.inr (by omega),h6,rfl,?_,hcap,hc64,?_⟩⟩⟩
   · simp only [List.size_toArray]
     rw [h7,hs];exact Nat.le_refl _
   · rw [hs] at h8;exact h8
theorem cloneE_spec {os : List OV} {rr : List OV × List OV} (hp : primSlClone (some 2) os = some rr) : CallSpec Try.prog 44 os rr.1 rr.2:=by
 unfold primSlClone at hp
 split at hp
 · rename_i sh xs
   split at hp
   · rename_i hc
     cases hp
     simp only [Bool.and_eq_true,Nat.ble_eq] at hc
     obtain ⟨h1,h4⟩:=hc
     cases shEq_eq h1
     refine row_spec fun w Oc us ab hlen hOc hS => ?_
     match us,hlen with
     | [u0],_ =>
       obtain ⟨A,c,L,e0,hnc,hA,hl,hin,hcell⟩:=(start_val hS (i:=0) rfl).rowCells
       simp at e0
       subst e0
       cases A with
       | none =>
         have hc0:=hA rfl
         have hx : xs = []:=List.eq_nil_of_length_eq_zero (by omega)
         subst hx
         refine (cloneE_nil w _ c).mono fun e w' ⟨he,hw⟩ => ?_
         subst hw
         exact ⟨_,L,he,⟨rfl,rfl,rfl,Nat.le_refl _,fun _ _ _ => rfl,.inl ⟨rfl,none,rfl⟩⟩,hl,hin⟩
       | some a =>
         refine (cloneE_some w a xs.length c h4 L (by simpa [shN] using hl) (hcell a rfl)).mono fun e w' ⟨v,he,hr⟩ => ⟨v,L,he,hr.mono fun _ h => h.elim,hl,hin⟩
   · cases hp
 · cases hp
set_option maxHeartbeats 4000000 in
set_option maxRecDepth 100000 in
theorem cloneP_nil (w : World) (n c : Nat) : Calls Try.prog 49 #[.slice none n c] w fun e w' => e = .returned (.slice none 0 0) ∧ w' = w:=by
 have hq : ∀ w,(binOp .eql 61 (.slice none n c) (.slice none 0 0)).run Try.prog w = .ok (.bool true) w:=fun w => Lib.run_eql_slice_nil (P:=Try.prog) w 61 55 none n c 0 0 u61
 go_enter Try.func49,Try.ntmps49
 go_wp2_with (simp only [hq])
 go_ret
 simp
set_option maxHeartbeats 4000000 in
set_option maxRecDepth 100000 in
theorem cloneP_some (w : World) (a : Addr) (n c : Nat) (hn : n ≤ 1000000) (L : List Value) (hl : L.length = n * 1) (hc : ∀ j v,L[j]? = some v → w.cell? (a.add j) = some v) :
 Calls Try.prog 49 #[.slice (some a) n c] w fun e w' => ∃ v,e = .returned v ∧ RowOut w w' (fun _ => False) 1 n L v:=by
 obtain ⟨ie,z,hi,hs,hb,hz,hzc⟩:=i55
 have hzs : z.cells.size = ie.size:=by rw [hzc,hs];rfl
 have hq : ∀ w,(binOp .eql 61 (.slice (some a) n c) (.slice none 0 0)).run Try.prog w = .ok (.bool false) w:=fun w => Lib.run_eql_slice_nil (P:=Try.prog) w 61 55 (some a) n c 0 0 u61
 have hc1 : ∀ j v,L[j]? = some v → (w.alloc (.cells #[] 55)).cell? (a.add j) = some v:=fun j v hj => by
  have h1:=hc j v hj
  have hlt:=cell_lt h1
  rw [cell_same (w:=w) (heap_old w _ hlt)]
  exact h1
 have hsz : (w.alloc (.cells #[] 55)).heap.size = w.heap.size + 1:=by
  show (w.heap.push _).size = _
  simp
 by_cases h0 : n = 0
 · subst h0
   have hr : ∀ ty,(Builtin.append_ #[61,61] ty #[.slice (some ⟨w.heap.size,0,none⟩) 0 0,.slice (some a) 0 c]).run Try.prog (w.alloc (.cells #[] 55)) = .ok (.slice (some ⟨w.heap.size,0,none⟩) 0 0) (w.alloc (.cells #[] 55)):=fun ty => by
    simp [Builtin.append_,run_underlying u61,Go.sizeOf,typeInfo,hi,Builtin.lenOf,Builtin.firstCells,Go.loadCells,Go.loadCellsFrom,Go.storeCells]
   go_enter Try.func49,Try.ntmps49
   go_wp2_with (first | simp only [hq] | (at_builtin;refine Lib.wpList_append_run _ rfl _ _ _ _ rfl _ _ rfl rfl _ _ (hr _) ?_))
   go_ret
   exact ⟨_,rfl,rfl,rfl,rfl,by rw [hsz];omega,fun k hk _ => heap_old w _ hk,.inl ⟨rfl,_,rfl⟩⟩
 · obtain ⟨cap,w1,N,hr,hcap,hc64,h1,h2,h3,h4,h5,h6,h7,h8⟩:=run_append_new0 (P:=Try.prog) (w:=w.alloc (.cells #[] 55)) (t:=61) (ty:=61) (mc:=c) (A:=some ⟨w.heap.size,0,none⟩) (a:=a) (m:=n) u61 hi hz hzs (news:=L) (by rw [hl,hs]) hc1 (by omega) (by omega) (by rw [hb];omega)
   go_enter Try.func49,Try.ntmps49
   go_wp2_with (first | simp only [hq] | (at_builtin;refine Lib.wpList_append_run _ rfl _ _ _ _ rfl _ _ rfl rfl _ _ hr ?_))
   go_ret
   rw [hsz] at h6
   refine ⟨_,rfl,⟨h1,h2,h3,by rw [h4,hsz];omega,fun k hk _ => by rw [h5 k (by rw [hsz];omega),heap_old w _ hk],.inr ⟨_,cap,_,55,(0,0),rfl,.inr (by omega),h6,rfl,?_,hcap,hc64,?_⟩⟩⟩
   · simp only [List.size_toArray]
     rw [h7,hs];exact Nat.le_refl _
   · rw [hs] at h8;exact h8
theorem cloneP_spec {os : List OV} {rr : List OV × List OV} (hp : primSlClone none os = some rr) : CallSpec Try.prog 49 os rr.1 rr.2:=by
 unfold primSlClone at hp
 split at hp
 · rename_i sh xs
   split at hp
   · rename_i hc
     cases hp
     simp only [Bool.and_eq_true,Nat.ble_eq] at hc
     obtain ⟨h1,h4⟩:=hc
     cases shEq_eq h1
     refine row_spec fun w Oc us ab hlen hOc hS => ?_
     match us,hlen with
     | [u0],_ =>
       obtain ⟨A,c,L,e0,hnc,hA,hl,hin,hcell⟩:=(start_val hS (i:=0) rfl).rowCells
       simp at e0
       subst e0
       cases A with
       | none =>
         have hc0:=hA rfl
         have hx : xs = []:=List.eq_nil_of_length_eq_zero (by omega)
         subst hx
         refine (cloneP_nil w _ c).mono fun e w' ⟨he,hw⟩ => ?_
         subst hw
         exact ⟨_,L,he,⟨rfl,rfl,rfl,Nat.le_refl _,fun _ _ _ => rfl,.inl ⟨rfl,none,rfl⟩⟩,hl,hin⟩
       | some a =>
         refine (cloneP_some w a xs.length c h4 L (by simpa [shN] using hl) (hcell a rfl)).mono fun e w' ⟨v,he,hr⟩ => ⟨v,L,he,hr.mono fun _ h => h.elim,hl,hin⟩
   · cases hp
 · cases hp
end Go.Proofs.Ytnieankaikhmnaa

open Go Go.Ev
namespace Go.Proofs.Ytnieankaikhmnaa
open Go.RowKit Go.Shelf
set_option maxHeartbeats 4000000 in
set_option maxRecDepth 100000 in
theorem growE_some (w : World) (g c n : Nat) (L : List Value) (et : TypeId) (fr : Nat × Nat) (hg : w.heap[g]? = some (.cells L.toArray et fr)) (hfr : fr.1 = fr.2) (hL : c * 2 ≤ L.length) (hc63 : c ≤ 9223372036854775807) (hn : n ≤ 10000000) :
 Calls Try.prog 68 #[.slice (some ⟨g,0,none⟩) 0 c,.int .i64 n] w fun e w' => ∃ v,e = .returned v ∧ RowOut w w' (· = g) 2 0 [] v:=by
 obtain ⟨ie,z,hi,hs,hb,hz,hzc⟩:=i33
 have hzs : z.cells.size = ie.size:=by rw [hzc,hs];rfl
 have h0 : ¬ ((n : Int) < 0):=by omega
 have hb1 : IntKind.i64.wrap ((n : Int) - (c : Int)) = (n : Int) - (c : Int):=by rw [IntKind.wrap_i64];omega
 have hb2 : IntKind.i64.wrap ((c : Int) - 0) = (c : Int):=by rw [IntKind.wrap_i64];omega
 have hb3 : (0 : Int) ≤ (c : Int):=by omega
 by_cases hgr : c < n
 · obtain ⟨cap,w1,N,hr,hcap,hc64,o1,o2,o3,o4,o5,o6,o7,o8⟩:=run_append_zeros_grow (P:=Try.prog) (w:=w) (t:=27) (tn:=3) (ty:=27) (k0 := .i64) (c:=c) (n:=c) (k:=n - c) (b:=⟨g,0,none⟩) (olds:=L.take (c * 2)) u27 u3 hi hz hzs (by rw [List.length_take,hs];omega) (fun j v hj => by
    have:=cell_take hg 0 (c * 2) j v (by simpa using hj)
    exact this) (by omega) (by omega) (by omega) (by omega) (by rw [hb];omega)
   have hk : ((n - c : Nat) : Int) = (n : Int) - (c : Int):=by omega
   have hsum : c + (n - c) = n:=by omega
   rw [hk,hsum] at hr
   have hb4 : (0 : Int) < (n : Int) - (c : Int):=by omega
   have hb5 : (c : Int) < (n : Int):=by omega
   go_enter Try.func68,Try.ntmps68
   go_wp2_with (at_builtin;refine Lib.wpList_append_run _ rfl _ _ _ _ rfl _ _ rfl rfl _ _ hr ?_)
   go_ret
   exact ⟨_,rfl,o1,o2,o3,by omega,fun k hk _ => o5 k hk,.inr ⟨w.heap.size,cap,_,33,(0,0),rfl,.inr (Nat.le_refl _),o6,rfl,by rw [List.size_toArray,o7,hs];exact Nat.le_refl _,Nat.zero_le _,hc64,by simp⟩⟩
 · have hb4 : ¬ ((0 : Int) < (n : Int) - (c : Int)):=by omega
   have hb5 : ¬ ((c : Int) < (n : Int)):=by omega
   go_enter Try.func68,Try.ntmps68
   go_wp2
   go_ret
   exact ⟨_,rfl,rfl,rfl,rfl,Nat.le_refl _,fun _ _ _ => rfl,.inr ⟨g,c,_,et,fr,rfl,.inl rfl,hg,hfr,by simpa using hL,Nat.zero_le _,hc63,by simp⟩⟩
set_option maxHeartbeats 4000000 in
set_option maxRecDepth 100000 in
theorem growE_none (w : World) (A : Option Addr) (n : Nat) (hn : n ≤ 10000000) :
 Calls Try.prog 68 #[.slice A 0 0,.int .i64 n] w fun e w' => ∃ v,e = .returned v ∧ RowOut w w' (fun _ => False) 2 0 [] v:=by
 obtain ⟨ie,z,hi,hs,hb,hz,hzc⟩:=i33
 have hzs : z.cells.size = ie.size:=by rw [hzc,hs];rfl
 have h0 : ¬ ((n : Int) < 0):=by omega
 by_cases hgr : 0 < n
 · obtain ⟨cap,w1,N,hr,hcap,hc64,o1,o2,o3,o4,o5,o6,o7⟩:=run_append_zeros0 (P:=Try.prog) (w:=w) (t:=27) (tn:=3) (ty:=27) (k0 := .i64) (k:=n) (A:=A) u27 u3 hi hz hzs hgr (by omega) (by omega) (by rw [hb];omega)
   have hb5 : (0 : Int) < (n : Int):=by omega
   cases A <;>
   · go_enter Try.func68,Try.ntmps68
     go_wp2_with (at_builtin;refine Lib.wpList_append_run _ rfl _ _ _ _ rfl _ _ rfl rfl _ _ hr ?_)
     go_ret
     exact ⟨_,rfl,o1,o2,o3,by omega,fun k hk _ => o5 k hk,.inr ⟨w.heap.size,cap,_,33,(0,0),rfl,.inr (Nat.le_refl _),o6,rfl,by rw [List.size_toArray,o7,hs];exact Nat.le_refl _,Nat.zero_le _,hc64,by simp⟩⟩
 · have hn0 : n = 0:=by omega
   subst hn0
   cases A <;>
   · go_enter Try.func68,Try.ntmps68
     go_wp2
     go_ret
     exact ⟨_,rfl,rfl,rfl,rfl,Nat.le_refl _,fun _ _ _ => rfl,.inl ⟨rfl,_,rfl⟩⟩
theorem growE_spec {os : List OV} {rr : List OV × List OV} (hp : primGrow (some 2) os = some rr) : CallSpec Try.prog 68 os rr.1 rr.2:=by
 unfold primGrow at hp
 split at hp
 · rename_i sh sp n
   split at hp
   · rename_i hc
     cases hp
     simp only [Bool.and_eq_true,decide_eq_true_eq] at hc
     obtain ⟨⟨h1,h2⟩,h3⟩:=hc
     cases shEq_eq h1
     obtain ⟨k,rfl⟩ : ∃ k : Nat,n = k:=⟨n.toNat,by omega⟩
     refine row_spec fun w Oc us ab hlen hOc hS => ?_
     match us,hlen with
     | [u0,u1],_ =>
       have e1:=(start_val hS (i:=1) rfl).int_inv
       simp at e1
       subst e1
       have hin : RowIn w (ab.off Oc) (some 2) [] (([] : List Value).toArray):=⟨fun i x hi => by simp at hi,fun i x j y hi => by simp at hi,fun i x j y hi => by simp at hi⟩
       rcases start_own hS (i:=0) rfl with ⟨_,A,e0⟩ | ⟨g,c,L,et,fr,e0,q0,hg,hfr,hL,hnc,hc63,hin0⟩
       · simp at e0
         subst e0
         exact (growE_none w A k (by omega)).mono fun e w' ⟨v,he,hr⟩ => ⟨v,[],he,hr.mono fun _ h => h.elim,by simp,hin⟩
       · simp at e0
         subst e0
         exact (growE_some w g c k L et fr hg hfr (by simpa [shN] using hL) hc63 (by omega)).mono fun e w' ⟨v,he,hr⟩ => ⟨v,[],he,hr.mono fun q e => ⟨0,none,by rw [e];exact q0⟩,by simp,hin⟩
   · cases hp
 · cases hp
set_option maxHeartbeats 4000000 in
set_option maxRecDepth 100000 in
theorem growP_some (w : World) (g c n : Nat) (L : List Value) (et : TypeId) (fr : Nat × Nat) (hg : w.heap[g]? = some (.cells L.toArray et fr)) (hfr : fr.1 = fr.2) (hL : c * 1 ≤ L.length) (hc63 : c ≤ 9223372036854775807) (hn : n ≤ 10000000) :
 Calls Try.prog 69 #[.slice (some ⟨g,0,none⟩) 0 c,.int .i64 n] w fun e w' => ∃ v,e = .returned v ∧ RowOut w w' (· = g) 1 0 [] v:=by
 obtain ⟨ie,z,hi,hs,hb,hz,hzc⟩:=i55
 have hzs : z.cells.size = ie.size:=by rw [hzc,hs];rfl
 have h0 : ¬ ((n : Int) < 0):=by omega
 have hb1 : IntKind.i64.wrap ((n : Int) - (c : Int)) = (n : Int) - (c : Int):=by rw [IntKind.wrap_i64];omega
 have hb2 : IntKind.i64.wrap ((c : Int) - 0) = (c : Int):=by rw [IntKind.wrap_i64];omega
 have hb3 : (0 : Int) ≤ (c : Int):=by omega
 by_cases hgr : c < n
 · obtain ⟨cap,w1,N,hr,hcap,hc64,o1,o2,o3,o4,o5,o6,o7,o8⟩:=run_append_zeros_grow (P:=Try.prog) (w:=w) (t:=61) (tn:=3) (ty:=61) (k0 := .i64) (c:=c) (n:=c) (k:=n - c) (b:=⟨g,0,none⟩) (olds:=L.take (c * 1)) u61 u3 hi hz hzs (by rw [List.length_take,hs];omega) (fun j v hj => by
    have:=cell_take hg 0 (c * 1) j v (by simpa using hj)
    exact this) (by omega) (by omega) (by omega) (by omega) (by rw [hb];omega)
   have hk : ((n - c : Nat) : Int) = (n : Int) - (c : Int):=by omega
   have hsum : c + (n - c) = n:=by omega
   rw [hk,hsum] at hr
   have hb4 : (0 : Int) < (n : Int) - (c : Int):=by omega
   have hb5 : (c : Int) < (n : Int):=by omega
   go_enter Try.func69,Try.ntmps69
   go_wp2_with (at_builtin;refine Lib.wpList_append_run _ rfl _ _ _ _ rfl _ _ rfl rfl _ _ hr ?_)
   go_ret
   exact ⟨_,rfl,o1,o2,o3,by omega,fun k hk _ => o5 k hk,.inr ⟨w.heap.size,cap,_,55,(0,0),rfl,.inr (Nat.le_refl _),o6,rfl,by rw [List.size_toArray,o7,hs];exact Nat.le_refl _,Nat.zero_le _,hc64,by simp⟩⟩
 · have hb4 : ¬ ((0 : Int) < (n : Int) - (c : Int)):=by omega
   have hb5 : ¬ ((c : Int) < (n : Int)):=by omega
   go_enter Try.func69,Try.ntmps69
   go_wp2
   go_ret
   exact ⟨_,rfl,rfl,rfl,rfl,Nat.le_refl _,fun _ _ _ => rfl,.inr ⟨g,c,_,et,fr,rfl,.inl rfl,hg,hfr,by simpa using hL,Nat.zero_le _,hc63,by simp⟩⟩
set_option maxHeartbeats 4000000 in
set_option maxRecDepth 100000 in
theorem growP_none (w : World) (A : Option Addr) (n : Nat) (hn : n ≤ 10000000) :
 Calls Try.prog 69 #[.slice A 0 0,.int .i64 n] w fun e w' => ∃ v,e = .returned v ∧ RowOut w w' (fun _ => False) 1 0 [] v:=by
 obtain ⟨ie,z,hi,hs,hb,hz,hzc⟩:=i55
 have hzs : z.cells.size = ie.size:=by rw [hzc,hs];rfl
 have h0 : ¬ ((n : Int) < 0):=by omega
 by_cases hgr : 0 < n
 · obtain ⟨cap,w1,N,hr,hcap,hc64,o1,o2,o3,o4,o5,o6,o7⟩:=run_append_zeros0 (P:=Try.prog) (w:=w) (t:=61) (tn:=3) (ty:=61) (k0 := .i64) (k:=n) (A:=A) u61 u3 hi hz hzs hgr (by omega) (by omega) (by rw [hb];omega)
   have hb5 : (0 : Int) < (n : Int):=by omega
   cases A <;>
   · go_enter Try.func69,Try.ntmps69
     go_wp2_with (at_builtin;refine Lib.wpList_append_run _ rfl _ _ _ _ rfl _ _ rfl rfl _ _ hr ?_)
     go_ret
     exact ⟨_,rfl,o1,o2,o3,by omega,fun k hk _ => o5 k hk,.inr ⟨w.heap.size,cap,_,55,(0,0),rfl,.inr (Nat.le_refl _),o6,rfl,by rw [List.size_toArray,o7,hs];exact Nat.le_refl _,Nat.zero_le _,hc64,by simp⟩⟩
 · have hn0 : n = 0:=by omega
   subst hn0
   cases A <;>
   · go_enter Try.func69,Try.ntmps69
     go_wp2
     go_ret
     exact ⟨_,rfl,rfl,rfl,rfl,Nat.le_refl _,fun _ _ _ => rfl,.inl ⟨rfl,_,rfl⟩⟩
theorem growP_spec {os : List OV} {rr : List OV × List OV} (hp : primGrow none os = some rr) : CallSpec Try.prog 69 os rr.1 rr.2:=by
 unfold primGrow at hp
 split at hp
 · rename_i sh sp n
   split at hp
   · rename_i hc
     cases hp
     simp only [Bool.and_eq_true,decide_eq_true_eq] at hc
     obtain ⟨⟨h1,h2⟩,h3⟩:=hc
     cases shEq_eq h1
     obtain ⟨k,rfl⟩ : ∃ k : Nat,n = k:=⟨n.toNat,by omega⟩
     refine row_spec fun w Oc us ab hlen hOc hS => ?_
     match us,hlen with
     | [u0,u1],_ =>
       have e1:=(start_val hS (i:=1) rfl).int_inv
       simp at e1
       subst e1
       have hin : RowIn w (ab.off Oc) none [] (([] : List Value).toArray):=⟨fun i x hi => by simp at hi,fun i x j y hi => by simp at hi,fun i x j y hi => by simp at hi⟩
       rcases start_own hS (i:=0) rfl with ⟨_,A,e0⟩ | ⟨g,c,L,et,fr,e0,q0,hg,hfr,hL,hnc,hc63,hin0⟩
       · simp at e0
         subst e0
         exact (growP_none w A k (by omega)).mono fun e w' ⟨v,he,hr⟩ => ⟨v,[],he,hr.mono fun _ h => h.elim,by simp,hin⟩
       · simp at e0
         subst e0
         exact (growP_some w g c k L et fr hg hfr (by simpa [shN] using hL) hc63 (by omega)).mono fun e w' ⟨v,he,hr⟩ => ⟨v,[],he,hr.mono fun q e => ⟨0,none,by rw [e];exact q0⟩,by simp,hin⟩
   · cases hp
 · cases hp
end Go.Proofs.Ytnieankaikhmnaa

