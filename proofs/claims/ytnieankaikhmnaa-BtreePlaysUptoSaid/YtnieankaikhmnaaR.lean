/- What the functions answer, and the laws. -/
import Derived.Test.YtnieankaikhmnaaSc
import Derived.OpenShut
import Derived.JoinedCond
import Derived.Test.YtnieankaikhmnaaRows

set_option linter.unusedVariables false

set_option linter.unusedSimpArgs false

set_option linter.unusedSectionVars false

set_option linter.unusedVariables false
namespace Go.Proofs.Ytnieankaikhmnaa
open Go Go.Ev Go.T14
theorem P2.prims : ∀ (g : FuncId) p os rr,P2.C.prim g = some p → p os = some rr → CallSpec P2.C.P g os rr.1 rr.2:=by
 intro g p os rr h1 h2
 have h1 : P2.prim g = some p:=h1
 unfold P2.prim at h1
 split at h1
 · cases h1
 · cases h1
 · cases h1
 · cases h1
 · cases h1
 · cases h1
 · cases h1;exact rangeE_spec h2
 · cases h1;exact spoil_spec h2
 · cases h1;exact pcall_spec _root_.Go.Proofs.Ytnieankaikhmnaa.names _root_.Go.Proofs.Ytnieankaikhmnaa.prims 5000 _ _ _ h2
theorem P3.prims : ∀ (g : FuncId) p os rr,P3.C.prim g = some p → p os = some rr → CallSpec P3.C.P g os rr.1 rr.2:=by
 intro g p os rr h1 h2
 have h1 : P3.prim g = some p:=h1
 unfold P3.prim at h1
 split at h1
 · cases h1
 · cases h1;exact rangeE_spec h2
 · cases h1;exact spoil_spec h2
 · cases h1;exact pcall_spec _root_.Go.Proofs.Ytnieankaikhmnaa.P2.names _root_.Go.Proofs.Ytnieankaikhmnaa.P2.prims 4000 _ _ _ h2
 · cases h1;exact pcall_spec _root_.Go.Proofs.Ytnieankaikhmnaa.names _root_.Go.Proofs.Ytnieankaikhmnaa.prims 5000 _ _ _ h2
end Go.Proofs.Ytnieankaikhmnaa

open Go Go.Ev Go.T14
set_option linter.unusedSimpArgs false
set_option linter.unusedVariables false
set_option maxHeartbeats 1000000
namespace Go.Proofs.Ytnieankaikhmnaa
theorem wf_u8 {n : Int} (h : (Lit.int .u8 n).wf = true) : 0 ≤ n ∧ n ≤ 255:=by
 simpa [Lit.wf,IntKind.min,IntKind.max,IntKind.signed,IntKind.bits] using h
theorem fits_cell {v x : PV} (h : pvFits none v = true) (hx : v.cells = [x]) : v = x:=by
 cases v <;> first | (cases h;done) | (simp [PV.cells] at hx;exact hx)
theorem byte_of {d : Nat} {x : PV} (h1 : pvFits none x = true) (h2 : TypedC Try.prog d 5 x.cells) : ∃ b,x = pvByte b:=by
 obtain ⟨n,h3,h4⟩:=h2.int (k := .u8) (by kernel_rfl)
 obtain ⟨h5,h6⟩:=wf_u8 h4
 refine ⟨UInt8.ofNat n.toNat,?_⟩
 rw [fits_cell h1 h3]
 unfold pvByte
 congr 1
 have : n.toNat < 256:=by omega
 simp [UInt8.toNat_ofNat',Nat.mod_eq_of_lt this]
 omega
theorem bytes_of : ∀ (xs : List PV),(∀ x ∈ xs,∃ b,x = pvByte b) → ∃ l,xs = bb l
 | [],h => ⟨[],rfl⟩
 | x :: r,h => by
   obtain ⟨b,hb⟩:=h x (by simp)
   obtain ⟨l,hl⟩:=bytes_of r fun y hy => h y (by simp [hy])
   exact ⟨b :: l,by rw [hb,hl];rfl⟩
theorem tc23 {d : Nat} {cs : List PV} (h : TypedC Try.prog d 23 cs) : ∃ l,cs = [.sl none (bb l)]:=by
 obtain ⟨xs,h1,_,h2⟩:=h.slice (e:=5) (sh:=none) (by kernel_rfl) (by kernel_rfl)
 obtain ⟨l,hl⟩:=bytes_of xs fun x hx => byte_of (h2 x hx).1 (h2 x hx).2
 exact ⟨l,by rw [h1,hl]⟩
theorem tc46 {d : Nat} {cs : List PV} (h : TypedC Try.prog d 46 cs) : ∃ a : AN,PV.agg cs = actV a:=by
 have hl : cs.length = 6:=(h.len (by kernel_rfl)).trans (by kernel_rfl)
 match cs,hl with
 | [x0,x1,x2,x3,x4,x5],_ =>
   obtain ⟨n,h0,_⟩:=(h.field (i:=0) (ty:=3) (off:=0) (n:=1) (by kernel_rfl)).int (k := .i64) (by kernel_rfl)
   obtain ⟨k,h1⟩:=tc23 (h.field (i:=1) (ty:=23) (off:=1) (n:=1) (by kernel_rfl))
   obtain ⟨v,h2⟩:=tc23 (h.field (i:=2) (ty:=23) (off:=2) (n:=1) (by kernel_rfl))
   have hs:=h.field (i:=3) (ty:=30) (off:=3) (n:=3) (by kernel_rfl)
   obtain ⟨f,h3⟩:=tc23 (hs.field (i:=0) (ty:=23) (off:=0) (n:=1) (by kernel_rfl))
   obtain ⟨t,h4⟩:=tc23 (hs.field (i:=1) (ty:=23) (off:=1) (n:=1) (by kernel_rfl))
   obtain ⟨e,h5⟩:=(hs.field (i:=2) (ty:=4) (off:=2) (n:=1) (by kernel_rfl)).bool (by kernel_rfl)
   simp at h0 h1 h2 h3 h4 h5
   subst h0 h1 h2 h3 h4 h5
   exact ⟨⟨n,k,v,⟨f,t,e⟩⟩,rfl⟩
theorem fits_agg {sh : Nat} {v : PV} (h : pvFits (some sh) v = true) : v = .agg v.cells:=by
 cases v <;> first | rfl | (simp [pvFits] at h)
theorem acts_of : ∀ (xs : List PV),(∀ x ∈ xs,∃ a,x = actV a) → ∃ l : List AN,xs = l.map actV
 | [],h => ⟨[],rfl⟩
 | x :: r,h => by
   obtain ⟨b,hb⟩:=h x (by simp)
   obtain ⟨l,hl⟩:=acts_of r fun y hy => h y (by simp [hy])
   exact ⟨b :: l,by rw [hb,hl];rfl⟩
theorem ty22 {v : PV} (h : Typed Try.prog 22 v) : ∃ l : List AN,v = .sl (some 6) (l.map actV):=by
 obtain ⟨d,hd⟩:=h.get
 obtain ⟨xs,h1,_,h2⟩:=hd.slice (e:=46) (sh:=some 6) (by kernel_rfl) (by kernel_rfl)
 obtain ⟨l,hl⟩:=acts_of xs fun x hx => by
  obtain ⟨a,ha⟩:=tc46 (h2 x hx).2
  exact ⟨a,by rw [fits_agg (h2 x hx).1,ha]⟩
 exact ⟨l,by rw [h.cell (by kernel_rfl) h1,hl]⟩
theorem bulk_bb : ∀ (l : List UInt8),pvBulks (bb l) = l.length
 | [] => rfl
 | b :: r => by
   show pvBulk (pvByte b) + pvBulks (bb r) = _
   rw [bulk_bb r]
   simp [pvByte,pvBulk];omega
theorem bulk_act (a : AN) : 1 ≤ pvBulk (actV a) ∧ a.k.length ≤ pvBulk (actV a) ∧ a.v.length ≤ pvBulk (actV a):=by
 simp only [actV,pvBulk,pvBulks,bulk_bb]
 omega
theorem bulk_acts : ∀ (l : List AN),l.length ≤ pvBulks (l.map actV) ∧ ∀ a ∈ l,a.k.length ≤ pvBulks (l.map actV) ∧ a.v.length ≤ pvBulks (l.map actV)
 | [] => ⟨Nat.zero_le _,fun a h => by cases h⟩
 | p :: r => by
   obtain ⟨h1,h2⟩:=bulk_acts r
   obtain ⟨g0,g1,g2⟩:=bulk_act p
   refine ⟨?_,fun a ha => ?_⟩
   · show r.length + 1 ≤ pvBulk (actV p) + pvBulks (r.map actV)
     omega
   · show a.k.length ≤ pvBulk (actV p) + pvBulks (r.map actV) ∧ a.v.length ≤ pvBulk (actV p) + pvBulks (r.map actV)
     rcases List.mem_cons.1 ha with rfl | ha
     · omega
     · have:=h2 a ha;omega
theorem acts_ok {l : List AN} (h : pvBulks (l.map actV) ≤ 1048576) : ShortA l ∧ l.length ≤ 100000000:=by
 obtain ⟨h1,h2⟩:=bulk_acts l
 refine ⟨fun a ha => ?_,by omega⟩
 have:=h2 a ha
 unfold big
 omega
end Go.Proofs.Ytnieankaikhmnaa

open Go Go.Ev Go.T14
namespace Go.Proofs.Ytnieankaikhmnaa.P3
theorem law5 (vs : List PV) (h : TypedAll Try.prog [22] vs) (hb : pvBulks vs ≤ 1048576) : ∃ n outs,pcall C n 5 (vs.map fun v => .flat (.val v)) = some ([.flat (.val (.bool true))],outs):=by
 obtain ⟨v1,r,rfl,h1,h⟩:=h.cons_inv
 cases h.nil_inv
 obtain ⟨l,rfl⟩:=ty22 h1
 simp only [pvBulks,pvBulk] at hb
 obtain ⟨g1,g2⟩:=acts_ok (l:=l) (by omega)
 exact ⟨_,_,s5 l g1 g2⟩
end Go.Proofs.Ytnieankaikhmnaa.P3

open Go Go.Ev
namespace Go.Proofs.Ytnieankaikhmnaa
set_option maxHeartbeats 1000000
open Go.ChangeShapes Go.WideShapes Go.ChangeAt Go.RowKit
theorem own : ownKnob Try.prog.godebug = Option.none:=by kernel_rfl
def types : List TypeId:=[3,4,5,22,23,30,46]
mutual
theorem upto1 {H : Type} (d : DataW H) : Rows.uptoBulk d = dBulk d:=match d with
 | .lit l => by cases l <;> simp [Rows.uptoBulk,dBulk]
 | .nil => by simp [Rows.uptoBulk,dBulk]
 | .ptr d => by simp [Rows.uptoBulk,dBulk,upto1 d]
 | .slice es sp => by simp [Rows.uptoBulk,dBulk,uptoL es,uptoL sp]
 | .agg ps => by simp [Rows.uptoBulk,dBulk,uptoL ps]
 | .iface t d => by simp [Rows.uptoBulk,dBulk,upto1 d]
 | .map es => by simp [Rows.uptoBulk,dBulk,uptoEs es]
 | .held h => by simp [Rows.uptoBulk,dBulk]
theorem uptoL {H : Type} (ds : List (DataW H)) : Rows.uptoBulkAll ds = dBulks ds:=match ds with
 | [] => by simp [Rows.uptoBulkAll,dBulks]
 | d :: r => by simp [Rows.uptoBulkAll,dBulks,upto1 d,uptoL r]
theorem uptoEs {H : Type} (ds : List (Lit × DataW H)) : Rows.uptoBulkEntries ds = dBulkEs ds:=match ds with
 | [] => by simp [Rows.uptoBulkEntries,dBulkEs]
 | d :: r => by simp [Rows.uptoBulkEntries,dBulkEs,uptoE d,uptoEs r]
theorem uptoE {H : Type} (x : Lit × DataW H) : Rows.uptoBulkEntry x = dBulkE x:=match x with
 | (l,d) => by cases l <;> simp [Rows.uptoBulkEntry,dBulkE,upto1 d]
end
theorem small_of {H : Type} {ds : List (DataW H)} (h : Rows.uptoSmall H ds = true) : dBulks ds ≤ 1048576:=by
 rw [← uptoL]
 exact of_decide_eq_true h
theorem contract5 (H : Type) (enc : TypeId × Value → H) (W : World) (base : Nat) (args : Array Value) (ds gs : List (DataW H)) (before : List MemPlace)
 (hval : ∀ (j : Nat) t v,Try.f5.params[j]? = some t → args[j]? = some v → Value.okWide Try.prog W .any base t v)
 (hW : DataW.Whole enc Try.prog Try.f5.params.toList Rows.btreePlaysSpec.vars false W args.toList ds gs before) (hk : Rows.uptoSmall H (ds ++ gs) = true) :
 Calls Try.prog 5 args W fun e W' => ∃ v,e = .returned v ∧ Rows.btreePlaysSpec.post enc Try.prog Try.f5 false true false false W args v W' :=
 law_contract (C:=P3.C) (T:=types) (tb:=4) P3.names P3.prims laid (by kernel_rfl) (by intro t ht;rw [show Try.f5.params.toList = [22] by kernel_rfl] at ht;revert t;decide) rfl (fun ds hds => by
  rw [show Try.f5.params.size = 1 by kernel_rfl] at hds
  match ds,hds with
  | [x0],_ => rfl) (by kernel_rfl) (by kernel_rfl) hval hW (fun vs hv hb => P3.law5 vs (by
    rw [show Try.f5.params.toList = [22] by kernel_rfl] at hv
    exact hv) (Nat.le_trans hb (small_of hk)))
set_option maxRecDepth 100000 in
theorem lifted5 (os : Os) (started : os.Started) (H : Type) (enc : TypeId × Value → H) (F : Stop.Interp) :
 ReturnsInHanded {} Try.checked os 5 .any ((Rows.OpenSpec.upto Rows.btreePlaysSpec).pre6 enc Try.prog Try.f5 Rows.btreePlaysUptoRow.domain false) (((Rows.OpenSpec.upto Rows.btreePlaysSpec).at F).post enc Try.prog Try.f5 false true false false):=by
 refine returnsInHanded_of_cond (C:=Try.checked) (s:=Rows.OpenSpec.upto Rows.btreePlaysSpec) (k:=Rows.uptoSmall) rfl own started (by kernel_rfl) Try.func5
  (OpenSpec.witness (enc:=enc) (C:=Try.checked) (s:=Rows.OpenSpec.upto Rows.btreePlaysSpec) (k:=Rows.uptoSmall) rfl false ⟨#[],#[.slice none 0 0],[]⟩ 8 (by kernel_rfl) (by kernel_rfl) (by kernel_rfl)
    (x:=([.nil],[],[])) (by kernel_rfl) rfl (by kernel_rfl)) ?_
 intro W base args ds gs before hval hW _ hk _
 exact contract5 H enc W base args ds gs before hval hW hk
theorem btreePlays_holds : Rows.BtreePlaysUptoSaid :=
 OpenClaim.holds_of_cond 5 Try.f5 rfl rfl rfl rfl rfl rfl rfl ⟨rfl,rfl,rfl,rfl,rfl⟩ rfl rfl rfl rfl rfl (by kernel_rfl) Try.func5 (by kernel_rfl)
  (of_decide_eq_true (by kernel_rfl)) (by unfold Func.isWrapper;first | (rw [if_pos (by decide +kernel)];kernel_rfl) | (rw [if_neg (by decide +kernel)];exact ⟨rfl,rfl⟩))
  (fun os started H enc _ F => lifted5 os started H enc F)
end Go.Proofs.Ytnieankaikhmnaa

