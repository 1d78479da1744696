/- What the functions answer, and the laws. -/
import Derived.Test.YtnieankaikhmnaaEvg
import Derived.Test.YtnieankaikhmnaaProg
import Derived.KernelRfl

set_option linter.unusedVariables false

set_option linter.unusedSimpArgs false

set_option linter.unusedSectionVars false

set_option linter.unusedSimpArgs false
set_option linter.unusedVariables false
namespace Go.T14
open Go Go.Ev
abbrev lt (a b : List UInt8) : Bool:=Op.bytesLess a b
theorem less_irrefl : ∀ a : List UInt8,Op.bytesLess a a = false
 | [] => rfl
 | x :: r => by simp [Op.bytesLess,less_irrefl r,UInt8.lt_irrefl]
theorem less_tri : ∀ (x y : List UInt8),x ≠ y → Op.bytesLess x y = !Op.bytesLess y x
 | [],[],h => absurd rfl h
 | [],y :: t,_ => rfl
 | x :: s,[],_ => rfl
 | x :: s,y :: t,h => by
   simp only [Op.bytesLess]
   by_cases hxy : x = y
   · subst hxy
     have hne : s ≠ t:=fun e => h (by rw [e])
     simp [UInt8.lt_irrefl,less_tri s t hne]
   · have hyx : ¬ y = x:=fun e => hxy e.symm
     have e1 : (x == y) = false:=by simpa using hxy
     have e2 : (y == x) = false:=by simpa using hyx
     rw [e1,e2,Bool.false_and,Bool.false_and,Bool.or_false,Bool.or_false]
     have : x < y ∨ y < x:=by
      rcases UInt8.lt_or_lt_of_ne hxy with h | h
      · exact .inl h
      · exact .inr h
     rcases this with h1 | h1
     · rw [decide_eq_true h1,decide_eq_false (UInt8.lt_asymm h1)];rfl
     · rw [decide_eq_false (UInt8.lt_asymm h1),decide_eq_true h1];rfl
theorem less_trans : ∀ {x y z : List UInt8},Op.bytesLess x y = true → Op.bytesLess y z = true → Op.bytesLess x z = true
 | [],[],z,h1,h2 => by simp [Op.bytesLess] at h1
 | [],y :: t,[],h1,h2 => by simp [Op.bytesLess] at h2
 | [],y :: t,z :: u,h1,h2 => rfl
 | x :: s,[],z,h1,h2 => by simp [Op.bytesLess] at h1
 | x :: s,y :: t,[],h1,h2 => by simp [Op.bytesLess] at h2
 | x :: s,y :: t,z :: u,h1,h2 => by
   simp only [Op.bytesLess,Bool.or_eq_true,decide_eq_true_eq,Bool.and_eq_true,beq_iff_eq] at h1 h2 ⊢
   rcases h1 with h1 | ⟨rfl,h1⟩ <;> rcases h2 with h2 | ⟨rfl,h2⟩
   · exact .inl (UInt8.lt_trans h1 h2)
   · exact .inl h1
   · exact .inl h2
   · exact .inr ⟨rfl,less_trans h1 h2⟩
theorem less_asymm {x y : List UInt8} (h : Op.bytesLess x y = true) : Op.bytesLess y x = false:=by
 cases h2 : Op.bytesLess y x with
 | false => rfl
 | true => rw [← less_irrefl x];exact (less_trans h h2).symm
theorem less_ne {x y : List UInt8} (h : Op.bytesLess x y = true) : x ≠ y:=fun e => by
 rw [e,less_irrefl] at h;cases h
theorem less_nless {x y z : List UInt8} (h : Op.bytesLess x y = true) (h2 : Op.bytesLess z y = false) : Op.bytesLess x z = true:=by
 by_cases e : y = z
 · rw [← e];exact h
 · exact less_trans h (by rw [less_tri y z e,h2];rfl)
theorem compareBytes_eq : ∀ a b : List UInt8,Lib.compareBytes a b = if a = b then 0 else if Op.bytesLess a b then -1 else 1
 | [],[] => rfl
 | [],_ :: _ => rfl
 | _ :: _,[] => rfl
 | x :: a,y :: b => by
   simp only [Lib.compareBytes,Op.bytesLess]
   by_cases h1 : x < y
   · have : x ≠ y:=fun h => UInt8.lt_irrefl y (h ▸ h1)
     simp [h1,this]
   · by_cases h2 : y < x
     · have : x ≠ y:=fun h => UInt8.lt_irrefl y (h ▸ h2)
       simp [h1,h2,this]
     · have : x = y:=UInt8.le_antisymm (UInt8.not_lt.1 h2) (UInt8.not_lt.1 h1)
       subst this
       simp only [h1,if_false,compareBytes_eq a b]
       simp
theorem cmp_lt (a b : List UInt8) : decide (Lib.compareBytes a b < 0) = Op.bytesLess a b:=by
 rw [compareBytes_eq]
 by_cases e : a = b
 · subst e;simp [less_irrefl]
 · rw [if_neg e]
   cases h : Op.bytesLess a b <;> simp
theorem cmp_le (a b : List UInt8) : decide (Lib.compareBytes a b ≤ 0) = !Op.bytesLess b a:=by
 rw [compareBytes_eq]
 by_cases e : a = b
 · subst e;simp [less_irrefl]
 · rw [if_neg e]
   have:=less_tri a b e
   cases h : Op.bytesLess a b <;> cases h2 : Op.bytesLess b a <;> simp_all
theorem cmp_eq (a b : List UInt8) : Lib.compareBytes a b = 0 ↔ a = b:=by
 rw [compareBytes_eq]
 by_cases e : a = b
 · simp [e]
 · cases Op.bytesLess a b <;> simp [e]
structure Ent where
 k : List UInt8
 v : List UInt8
 deriving DecidableEq
structure Sp where
 f : List UInt8
 t : List UInt8
 e : Bool
 deriving DecidableEq
def Sorted (l : List Ent) : Prop:=l.Pairwise fun a b => Op.bytesLess a.k b.k = true
def ltc (k : List UInt8) (l : List Ent) : Nat:=(l.filter fun e => Op.bytesLess e.k k).length
def has (k : List UInt8) (l : List Ent) : Bool:=l.any fun e => e.k == k
def insL (e : Ent) (l : List Ent) : List Ent:=l.filter (fun x => Op.bytesLess x.k e.k) ++ e :: l.filter (fun x => Op.bytesLess e.k x.k)
def delL (k : List UInt8) (l : List Ent) : List Ent:=l.filter fun e => !(e.k == k)
def getL (k : List UInt8) (l : List Ent) : Option Ent:=l.find? fun e => e.k == k
def inSp (s : Sp) (k : List UInt8) : Bool := !Op.bytesLess k s.f && (!s.e || Op.bytesLess k s.t)
def rangeL (s : Sp) (l : List Ent) : List Ent:=l.filter fun e => inSp s e.k
@[reducible] def Tr : Nat → Type
  | 0 => List Ent
  | d + 1 => List (Tr d)
def flat : (d : Nat) → Tr d → List Ent
 | 0,es => es
 | d + 1,bs => List.flatMap (flat d) (bs : List (Tr d))
def leaves : (d : Nat) → Tr d → List (List Ent)
 | 0,es => [es]
 | d + 1,bs => List.flatMap (leaves d) (bs : List (Tr d))
def sz : (d : Nat) → Tr d → Nat
 | 0,es => List.length (es : List Ent)
 | d + 1,bs => List.length (bs : List (Tr d))
def Okp : (d : Nat) → Tr d → Prop
 | 0,es => 2 ≤ List.length (es : List Ent) ∧ List.length (es : List Ent) ≤ 4
 | d + 1,bs => 2 ≤ List.length (bs : List (Tr d)) ∧ List.length (bs : List (Tr d)) ≤ 4 ∧ ∀ b ∈ (bs : List (Tr d)),Okp d b
def Okm : (d : Nat) → Tr d → Prop
 | 0,es => 1 ≤ List.length (es : List Ent) ∧ List.length (es : List Ent) ≤ 4
 | d + 1,bs => 1 ≤ List.length (bs : List (Tr d)) ∧ List.length (bs : List (Tr d)) ≤ 4 ∧ ∀ b ∈ (bs : List (Tr d)),Okp d b
def Okr : (d : Nat) → Tr d → Prop
 | 0,es => List.length (es : List Ent) ≤ 4
 | d + 1,bs => 2 ≤ List.length (bs : List (Tr d)) ∧ List.length (bs : List (Tr d)) ≤ 4 ∧ ∀ b ∈ (bs : List (Tr d)),Okp d b
def Short (n : Nat) (l : List Ent) : Prop := ∀ e ∈ l,e.k.length ≤ n ∧ e.v.length ≤ n
def big : Nat:=8388608
structure Good (d : Nat) (t : Tr d) : Prop where
 sorted : Sorted (flat d t)
 okr : Okr d t
 short : Short big (flat d t)
 deep : d ≤ 10
abbrev bV (l : List UInt8) : PV := .sl none (l.map pvByte)
def entV (e : Ent) : PV := .agg [bV e.k,bV e.v]
def spV (s : Sp) : PV := .agg [bV s.f,bV s.t,.bool s.e]
def pageV (es bs : List PV) (c : Nat) : PV := .ptr (some 3) (.agg [.sl (some 2) es,.sl none bs,.int .i64 c])
def enc : (d : Nat) → Tr d → PV
 | 0,es => pageV (List.map entV (es : List Ent)) [] (List.length (es : List Ent))
 | d + 1,bs => pageV [] (List.map (enc d) (bs : List (Tr d))) (flat (d + 1) bs).length
def bytesOfV : PV → List UInt8
 | .sl _ xs => xs.map u8Of
 | _ => []
def entOfV : PV → Ent
 | .agg [k,v] => ⟨bytesOfV k,bytesOfV v⟩
 | _ => ⟨[],[]⟩
def spOfV : PV → Sp
 | .agg [f,t,.bool e] => ⟨bytesOfV f,bytesOfV t,e⟩
 | _ => ⟨[],[],false⟩
def leavesV : Nat → PV → List (List Ent)
 | 0,_ => []
 | n + 1,.ptr _ (.agg [.sl _ es,.sl _ [],_]) => [es.map entOfV]
 | n + 1,.ptr _ (.agg [.sl _ _,.sl _ bs,_]) => bs.flatMap (leavesV n)
 | _,_ => []
theorem u8_pv (b : UInt8) : u8Of (pvByte b) = b:=by simp [u8Of,pvByte]
theorem bytes_bV (l : List UInt8) : bytesOfV (bV l) = l:=by
 simp [bytesOfV,bV,List.map_map]
 conv => rhs;rw [← List.map_id l]
 exact List.map_congr_left fun x _ => u8_pv x
theorem ent_entV (e : Ent) : entOfV (entV e) = e:=by simp only [entOfV,entV,bytes_bV]
theorem sp_spV (s : Sp) : spOfV (spV s) = s:=by simp only [spOfV,spV,bytes_bV]
theorem ents_entV (l : List Ent) : (l.map entV).map entOfV = l:=by
 rw [List.map_map]
 conv => rhs;rw [← List.map_id l]
 exact List.map_congr_left fun x _ => ent_entV x
theorem flatMap_congr' {α β : Type} {f g : α → List β} : ∀ {l : List α},(∀ x ∈ l,f x = g x) → l.flatMap f = l.flatMap g
 | [],_ => rfl
 | a :: r,h => by rw [List.flatMap_cons,List.flatMap_cons,h a (by simp),flatMap_congr' fun x hx => h x (by simp [hx])]
theorem flatten_flatMap' {α β : Type} (f : α → List (List β)) : ∀ l : List α,(l.flatMap f).flatten = l.flatMap fun x => (f x).flatten
 | [] => rfl
 | a :: r => by rw [List.flatMap_cons,List.flatMap_cons,List.flatten_append,flatten_flatMap' f r]
theorem flat_leaves : ∀ (d : Nat) (t : Tr d),flat d t = (leaves d t).flatten
 | 0,es => by simp [flat,leaves]
 | d + 1,bs => by
   show List.flatMap (flat d) bs = (List.flatMap (leaves d) bs).flatten
   rw [flatten_flatMap']
   exact flatMap_congr' fun x _ => flat_leaves d x
theorem leavesV_enc : ∀ (d n : Nat) (t : Tr d),d < n → Okm d t → leavesV n (enc d t) = leaves d t
 | 0,n + 1,es,_,_ => by simp only [enc,pageV,leavesV,leaves,ents_entV]
 | d + 1,n + 1,bs,h,ho => by
   obtain ⟨h1,h2,h3⟩:=ho
   have e : ∀ b ∈ (bs : List (Tr d)),Okm d b:=fun b hb => by
    have:=h3 b hb
    cases d with
    | zero => exact ⟨by have:=this.1;omega,this.2⟩
    | succ d => exact ⟨by have:=this.1;omega,this.2.1,this.2.2⟩
   cases bs with
   | nil => simp at h1
   | cons b r =>
     simp only [enc,pageV,List.map_cons,leavesV,leaves]
     rw [← List.map_cons,List.flatMap_map]
     exact flatMap_congr' fun x hx => leavesV_enc d n x (by omega) (e x hx)
open Classical in
noncomputable def primRange : List OV → Option (List OV × List OV)
 | [.cont .box [.val root],.flat (.val sp)] => if ∃ (d : Nat) (t : Tr d) (s : Sp),Good d t ∧ root = enc d t ∧ sp = spV s then
     some ([.flat (.val (.sl (some 2) ((rangeL (spOfV sp) (leavesV 20 root).flatten).map entV)))],[.cont .box [.val root]]) else none
 | _ => none
open Classical in
noncomputable def primPages : List OV → Option (List OV × List OV)
 | [.cont .box [.val root]] => if ∃ (d : Nat) (t : Tr d),Good d t ∧ root = enc d t then
     some ([.flat (.val (.sl none ((leavesV 20 root).map fun l => .sl (some 2) (l.map entV))))],[.cont .box [.val root]]) else none
 | _ => none
theorem leavesV_root {d : Nat} {t : Tr d} (h : Good d t) : leavesV 20 (enc d t) = leaves d t:=by
 cases d with
 | zero => simp only [enc,pageV,leavesV,leaves,ents_entV]
 | succ d => exact leavesV_enc (d + 1) 20 t (by have:=h.deep;omega) ⟨by have:=h.okr.1;omega,h.okr.2⟩
theorem primRange_eq {d : Nat} {t : Tr d} (s : Sp) (h : Good d t) : primRange [.cont .box [.val (enc d t)],.flat (.val (spV s))] = some ([.flat (.val (.sl (some 2) ((rangeL s (flat d t)).map entV)))],[.cont .box [.val (enc d t)]]):=by
 unfold primRange
 dsimp only
 rw [if_pos ⟨d,t,s,h,rfl,rfl⟩,leavesV_root h,sp_spV,← flat_leaves]
theorem primPages_eq {d : Nat} {t : Tr d} (h : Good d t) : primPages [.cont .box [.val (enc d t)]] = some ([.flat (.val (.sl none ((leaves d t).map fun l => .sl (some 2) (l.map entV))))],[.cont .box [.val (enc d t)]]):=by
 unfold primPages
 dsimp only
 rw [if_pos ⟨d,t,h,rfl⟩,leavesV_root h]
theorem primRange_inv {os : List OV} {rr : List OV × List OV} (h : primRange os = some rr) : ∃ (d : Nat) (t : Tr d) (s : Sp),Good d t ∧ os = [.cont .box [.val (enc d t)],.flat (.val (spV s))] ∧
 rr = ([.flat (.val (.sl (some 2) ((rangeL s (flat d t)).map entV)))],[.cont .box [.val (enc d t)]]):=by
 have h0:=h
 unfold primRange at h
 split at h
 · split at h
   · rename_i hx
     obtain ⟨d,t,s,hg,rfl,rfl⟩:=hx
     rw [primRange_eq s hg] at h0
     cases h0
     exact ⟨d,t,s,hg,rfl,rfl⟩
   · cases h
 · cases h
theorem primPages_inv {os : List OV} {rr : List OV × List OV} (h : primPages os = some rr) : ∃ (d : Nat) (t : Tr d),Good d t ∧ os = [.cont .box [.val (enc d t)]] ∧
 rr = ([.flat (.val (.sl none ((leaves d t).map fun l => .sl (some 2) (l.map entV))))],[.cont .box [.val (enc d t)]]):=by
 have h0:=h
 unfold primPages at h
 split at h
 · split at h
   · rename_i hx
     obtain ⟨d,t,hg,rfl⟩:=hx
     rw [primPages_eq hg] at h0
     cases h0
     exact ⟨d,t,hg,rfl,rfl⟩
   · cases h
 · cases h
end Go.T14

open Go Go.Ev
set_option maxRecDepth 100000
namespace Go.Proofs.Ytnieankaikhmnaa
def live : Nat → List (List Nat)
 | 2 => [[]]
 | 3 => [[0,1,2,3],[0,1,2,3],[0,1,2,3,9],[1,2,3,9,10],[],[1,2,3,10],[1,2,10],[1,2,11],[1,2,3,10],[1,2,3,10,12],[1,3,10,12,13],[1,3,10,12,13,14],[1,3,10,12,13,14,15],[1,3,12,13,14,15,16],[1,3,12,13,14,15,16,17],[1,3,12,13,14,15,16,17],[1,3,12,13,14,15,16,17],[1,3,12,13,14,15,16,17],[],[1,3,12,13,14,15,16,17],[12,13,14,15]]
 | 4 => [[0,1,2,3],[0,1,2,3],[0,1,2,3,9],[1,2,3,9,10],[],[1,2,3,10],[1,2,3,10,11,12],[1,2,3,10,11,12,13],[1,2,3,10,11,12,13,15],[1,2,3,10,11,12,13,15,16],[1,2,3,10,11,12,13,15,16,17,18],[],[1,3,10,11,12],[1,3,10,11,12,19],[1,3,10,11,12,19,21],[1,3,10,11,12,19,21,22,23],[1,3,11,12,19,21,22,23,24]]
 | 5 => [[0],[0],[0,3],[0,3,4],[],[0,4],[0,4,5],[0,4,5,6],[0,4,5,6],[0,4,5,6],[0,4,5,6],[0,4,5,6,7],[],[0,4,5,6,7],[0,5,6,7],[0,4,5,6],[0,4,5,6,8],[],[4,5],[4,5,9],[4,5,9,10],[4,5,10]]
 | 6 => [[0,1,2],[0,1,2],[0,1,2,7],[1,2,7,8],[],[1,2,8],[1,2,8,9],[],[1,2,8,9],[1,2,8,9,10],[1,2,8,9,10,11],[1,2,8,9,10,11],[1,2,8,9,10,11],[1,2,8,9,10,11],[1,2,8,9,10,11],[2,8,9,10],[],[2,8,9],[2,8,9,12],[2,8,9,12,13],[2,8,9,12,13],[2,8,9,12,13],[2,8,9,12,13],[2,8,9,12,13],[9,12]]
 | 7 => [[0],[0],[0,3],[0,3,4],[],[0,4],[0,4,5],[0,4,5],[0,4,5],[0,4,5],[0,4,5],[0,4,5],[0,4,5],[0,4,5,6],[0,4,5,6,7],[0,4,5,6,7,8],[0,4,5,6,7,8,9],[0,4,5,6,7,8,9],[0,4,5,6,7,8,9],[],[0,4,5,6,7,8,9],[0,4,5,6,7,8],[0,4,5,6,7,8,10],[0,4,5,6,7,8,10],[0,4,5,6,7,8,10],[],[0,4,5,6,7,8],[],[0,4,5,7,8],[],[4]]
 | 8 => [[],[],[1],[],[1],[1,2],[1,2],[1,2],[],[1],[1,3],[1,3,4,5]]
 | 9 => [[0],[0],[0,3],[0,3,4],[0,3,4],[0,3,4],[0,3,4],[0,3,4],[0,3,4],[3]]
 | 10 => [[0,1,2,6,7,8,9,15,16,17,18,19,20,21,22,23,24,25,26,27,28,29,30,31,32,33,34,35,36,37,38,39,40,41,42,43,44,45,46,47,48,49,50],[0,1,2,3,4,6,7,8,9,15,16,17,18,19,20,21,22,23,24,25,26,27,28,29,30,31,32,33,34,35,36,37,38,39,40,41,42,43,44,45,46,47,48,49,50],[0,1,2,3,4,5,6,7,8,9,15,16,17,18,19,20,21,22,23,24,25,26,27,28,29,30,31,32,33,34,35,36,37,38,39,40,41,42,43,44,45,46,47,48,49,50],[0],[0],[0],[0],[0],[0],[0],[0,5]]
 | 11 => [[0,1],[1,2]]
 | 12 => [[0,1],[0,1],[],[0,1],[0,1,5],[0,1,5],[0,1,5],[],[]]
 | 13 => [[0,1],[0,1],[0,6,7]]
 | 14 => [[0],[0]]
 | 15 => [[0,1,2],[0,1,2],[0,1,2,8],[0,8,9],[0,8,9],[0,8,9],[0,8]]
 | 16 => [[0,1],[0,1],[0,1,6],[0],[0,1],[0],[0],[0]]
 | 17 => [[],[]]
 | 18 => [[0],[0]]
 | 19 => [[0,1,2],[0,1,5],[0,1,5,7],[0,1,5,7,8],[0,1,5,7,8,9],[0,1,5,7,8,9,23],[0,1,5,7,8],[0,1,5,7,8,9,23],[0,1,5,7,8],[0,1,5,7,8,9,23],[0,1,5,7,8],[1,5,7,8,10,11],[5,7,8,10,11,12,13],[5,7,8,9,10],[0,1,5,7,8,9,23],[0,1,5,7,8],[1,5,7,8,14],[5,7,8,9,14],[5,7,8,9],[7,8,9,15],[9,15]]
 | 20 => [[0],[0,2],[0,2],[0,2],[0,2]]
 | 21 => [[0,1,4,10,11,12,13,14,15,16,17,18,19],[0,1,2,4,10,11,12,13,14,15,16,17,18,19],[0,1,2,3,4,10,11,12,13,14,15,16,17,18,19],[0],[0],[0,3]]
 | 22 => [[0],[0],[0,3],[0,3,4],[0,3,4],[0,3,4],[0,3]]
 | 23 => [[0],[1]]
 | 24 => [[0,1],[0,1]]
 | 25 => [[0],[0],[0,3],[3,6,7,8],[3,6,7,8],[3,5,6,7,8],[3,6,7,8],[3]]
 | 26 => [[0,1],[0,1,4],[0,1,4,6],[0,1,4,6],[0,1,4,6],[0,4,5,6,7],[0,4,5,6,7],[0,4,5]]
 | 27 => [[0],[0],[],[0]]
 | 28 => [[0,1],[0,3],[0,3],[0,3,5,6],[3,5,6,7],[3,5,7],[3,5,7],[7],[0,3],[0,3,8]]
 | 29 => [[0],[0],[0,3],[3,9,10,11],[3,9,10,11],[3,5,9,10,11],[3,9,10,11],[3]]
 | 30 => [[0,1],[0,1],[0,1],[0,5],[0,1],[0,1,7],[1,7,8],[7,8],[7,8],[7,8],[8]]
 | 31 => [[0],[0]]
 | 32 => [[0],[0],[0,3],[0,3],[3]]
 | 33 => [[0,1,2],[0,1,2],[0,1,2,7],[0,1,2,7,8],[0,1,2,7,8,9],[0,1,2,7,8,9],[0,7,8,9],[0,7,8,9],[0,7,8,9],[0,8]]
 | 34 => [[0,1],[0,1],[0,1,5],[0,5,6],[0],[0,5],[0,5,7],[0,5,7],[0]]
 | 35 => [[0,1],[0,1],[0,1,6],[0,6,7],[0],[0,6]]
 | 36 => [[0],[0],[0,3],[0,3],[0,3],[0,3,4],[0,3,4,5],[0,3,4,5],[0,3,4,5],[0],[0,6],[0,6],[0,6],[0,6,7],[0,6,7,8],[0,6,7,8],[0,6,7,8],[],[]]
 | 37 => [[0,1],[0,3],[0,3,5],[0,3,5,6],[0,3,5,6],[0,3,5,6],[0,3,5,6,7],[0,3,5,6],[0,5]]
 | 38 => [[0,1],[0,1]]
 | 39 => [[0,1],[0,3],[0,3],[0,3,4],[0,3,4],[0,3,4,5],[0,3,4,5],[0,3,4,5],[0,3,4]]
 | 40 => [[0,1,2],[0,1,2],[0,1,2,8],[0,1,2,8,9,10],[0,1,2,8,9,10],[0,1,2,8,9,10,11],[0,1,2,8,10,11],[0,1,2,8,9,11],[0,1,2,8,9]]
 | 41 => [[0,1],[1,2]]
 | 42 => [[0,1],[0,1]]
 | 43 => [[0,1],[0,1],[0,1,5],[0,1,5],[5]]
 | 44 => [[0],[0],[],[0]]
 | 45 => [[0,1,2],[0,1,2],[0,1,2],[0,1,2,7],[0],[0,1,2,7],[0,1,2,7,8],[0,2],[0,1,2,7,8],[0,1,2,7,8],[0,1,2,7,9],[0,1,7,9],[9],[0,1,2,7,8],[0,1,2,7,8],[0,1,2,7],[0,1,2],[0],[0,1,2,7,8],[0,1,7],[0]]
 | 46 => [[0],[0],[0],[0],[0,3]]
 | 47 => [[0],[0],[0],[0],[0,3]]
 | 48 => [[0,1,2,3],[0,1,2,3],[0,1,2,3],[0,1,3],[0,1,2,3],[0,1,3],[0,9],[0,9],[9],[0,1,2,3],[0,1,2,3,10],[0,1,2,3,10],[0,1,2,3,11],[0,1,2,3,11],[11],[0,1,2,3,10],[0,1,2,3,10,12],[0,1,2,3,10,12],[0,1,2,3,10,12],[0,10,12],[12],[0,1,2,3,12],[0,1,2,3,12],[1,3,12],[12],[0,1,2,3,12],[0,1,2,3,12,13],[0,1,2,3,12,13],[0,1,3,12,13],[1,12,13],[12],[0,1,2,3,12,13],[0,1,2,3,12,13],[1,2,3,12,13],[1,12,13],[12],[0,1,2,3,12],[1,3,12,14],[1,3,12,14],[12]]
 | 49 => [[0],[0],[],[0]]
 | 50 => [[0,1,2],[0,1,2],[0,1,2],[0],[0,1,2],[0,1,2,7],[0,7],[0]]
 | 51 => [[0],[0]]
 | 52 => [[0,1],[0,1],[0,1],[0,1]]
 | 53 => [[0,1],[0,1],[0,1,5],[0,1,5],[0,5]]
 | 54 => [[0,1,2],[0,1,2]]
 | 55 => [[0],[0]]
 | 57 => [[0],[0],[0],[0]]
 | 59 => [[0,1]]
 | 60 => [[0,1,2],[0,1,2],[0,1,2],[0,1,2,7],[0],[0,1,2,7],[0,1,2,7,8],[0,2],[0,1,2,7,8],[0,1,2,7,8],[0,1,2,7,9],[0,1,7,9],[9],[0,1,2,7,8],[0,1,2,7,8],[0,1,2,7],[0,1,2],[0],[0,1,2,7,8],[0,1,7],[0]]
 | 62 => [[0,1]]
 | 63 => [[0,1],[0,1,4],[0,4,5],[0,4,5,10,11],[0,4,5,10,11],[0,4,5,6,10,11],[6],[0,4,5,10,11],[4]]
 | 64 => [[0],[0],[0,3],[0,3,9,10,11],[0,3,9,10,11],[0,3,5,9,10,11],[0,3,9,10,11],[0,3,9,10,11],[0,3,9,10,11],[0,3],[0,6],[6,25,26,27],[6,25,26,27],[6,8,25,26,27],[6,25,26,27],[6]]
 | 65 => [[0],[0],[0,3],[0,3,9,10,11],[0,3,9,10,11],[0,3,5,9,10,11],[0,3,9,10,11],[0,3,9,10,11],[0,3,9,10,11],[0,3],[0,6],[6,25,26,27],[6,25,26,27],[6,8,25,26,27],[6,25,26,27],[6]]
 | 66 => [[0,1],[0,1],[0]]
 | 67 => [[0,1],[0,1],[0]]
 | 68 => [[0,1],[0,1],[0,1],[0,1],[0,1],[0,1],[0]]
 | 69 => [[0,1],[0,1],[0,1],[0,1],[0,1],[0,1],[0]]
 | 70 => [[0],[0,2,3],[0,2,3],[0,2,3]]
 | 71 => [[0],[0,2,3],[0,2,3],[0,2,3]]
 | _ => []
def mode : Nat → List Md
 | 10 => [.io (.b [false]),.ro]
 | 13 => [.io (.b [false]),.ro]
 | 14 => [.io (.b [false])]
 | 15 => [.io (.b [false]),.ro,.ro]
 | 16 => [.io (.b [false]),.ro]
 | 18 => [.io (.b [false])]
 | 21 => [.io (.b [false])]
 | 22 => [.io (.b [false])]
 | 26 => [.io (.b [false]),.ro]
 | 33 => [.io (.b [true]),.ro,.ro]
 | 34 => [.io (.b [true]),.ro]
 | 35 => [.io (.b [true]),.ro]
 | 36 => [.tk]
 | 37 => [.io (.b [true]),.ro]
 | 38 => [.io .os,.ro]
 | 44 => [.ro]
 | 45 => [.tk,.ro,.tk]
 | 48 => [.tk,.ro,.ro,.tk]
 | 49 => [.ro]
 | 50 => [.tk,.ro,.ro]
 | 53 => [.io (.b [true]),.ro]
 | 54 => [.io (.b [true]),.ro,.ro]
 | 68 => [.tk,.ro]
 | 69 => [.tk,.ro]
 | _ => []
def res : Nat → List RK
 | 9 => [.b [false]]
 | 13 => [.o,.v]
 | 17 => [.b [false]]
 | 18 => [.b [false]]
 | 25 => [.o]
 | 27 => [.o]
 | 28 => [.o]
 | 32 => [.os]
 | 35 => [.o,.v]
 | 44 => [.o]
 | 45 => [.o]
 | 46 => [.o]
 | 47 => [.o]
 | 48 => [.o]
 | 49 => [.o]
 | 50 => [.o]
 | 52 => [.o]
 | 55 => [.o]
 | 64 => [.o]
 | 65 => [.o]
 | 68 => [.o]
 | 69 => [.o]
 | _ => []
def frz : Nat → List Bool
 | 29 => [true]
 | 31 => [true]
 | _ => []
noncomputable def prim : Nat → Option (List OV → Option (List OV × List OV))
 | 10 => some T14.primRange
 | 21 => some T14.primPages
 | 27 => some primClone
 | 32 => some primLent
 | 36 => some primOwned
 | 38 => some primKept
 | 42 => some primBytesCompare
 | 44 => some (primSlClone (some 2))
 | 45 => some (primInsert (some 2))
 | 48 => some (primReplace none)
 | 49 => some (primSlClone none)
 | 50 => some (primDelete (some 2))
 | 68 => some (primGrow (some 2))
 | 69 => some (primGrow none)
 | _ => none
noncomputable def C : Ctx:={ P:=Try.prog,mode:=mode,res:=res,live:=live,prim:=prim,frz:=frz }
theorem names : namesOk C.P = true:=by kernel_rfl
theorem laid : laidOutB C.P = true:=by kernel_rfl
end Go.Proofs.Ytnieankaikhmnaa

