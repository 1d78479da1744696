/- An evaluator of the model's code over pure data, and why it is right: part 1. -/
import GoSem.Step
import Derived.Calls

set_option linter.unusedVariables false

set_option linter.unusedSimpArgs false

set_option linter.unusedSectionVars false

namespace Go.Ev
inductive PV where
 | undef
 | bool (b : Bool)
 | int (k : IntKind) (n : Int)
 | str (s : List UInt8)
 | sl (sh : Option Nat) (xs : List PV)
 | agg (cs : List PV)
 | nilp
 | ptr (sh : Option Nat) (v : PV)
 | fn (f : Fn) (first captured : List PV)
 | nilfn
 deriving Inhabited
def PV.cells : PV → List PV
 | .agg cs => cs
 | v => [v]
def PV.toI : PV → Int
 | .int _ n => n
 | _ => 0
def PV.toB : PV → Bool
 | .bool b => b
 | _ => false
def PV.toS : PV → List UInt8
 | .str s => s
 | _ => []
def PV.toL : PV → List PV
 | .sl _ xs => xs
 | _ => []
def PV.deref : PV → PV
 | .ptr _ v => v
 | _ => .undef
inductive FV where
 | val (v : PV)
 | nil (sh : Option Nat)
 | own (sh : Option Nat) (xs : List PV) (sp : List PV)
 | gone
 deriving Inhabited
inductive CK where
 | agg | box | nest | tup | ents
 deriving DecidableEq,Inhabited
inductive OV where
 | flat (f : FV)
 | cont (k : CK) (cs : List FV)
 | tn (cs : List FV) (ps : List PV)
 deriving Inhabited
abbrev OV.val (v : PV) : OV := .flat (.val v)
inductive SV where
 | dead
 | home (o : OV)
 | ref (s : Nat) (c : Option Nat)
 | adr (s : Nat) (j : Nat)
 | adrx (s : Nat) (j : Nat)
 | adre (s : Nat) (c : Option Nat) (i : Nat) (off : Nat)
 | view (s : Nat) (c : Option Nat) (l h : Nat)
 | rng (s : Nat) (j n : Nat)
 | fadr (sh : Option Nat) (v : PV)
 deriving Inhabited
abbrev SV.val (v : PV) : SV := .home (.flat (.val v))
abbrev Slots:=List (Nat × SV)
def Slots.get : Slots → Nat → SV
 | [],_ => .dead
 | (k,v) :: r,t => match Nat.beq t k with
   | true => v
   | false => Slots.get r t
def Slots.ins : Slots → Nat → SV → Slots
 | [],t,v => [(t,v)]
 | (k,u) :: r,t,v => match Nat.beq t k with
   | true => (t,v) :: r
   | false => match Nat.blt t k with
     | true => (t,v) :: (k,u) :: r
     | false => (k,u) :: Slots.ins r t v
def Slots.mapv (f : SV → SV) : Slots → Slots
 | [] => []
 | (k,u) :: r => (k,f u) :: Slots.mapv f r
def memN (t : Nat) : List Nat → Bool
 | [] => false
 | k :: r => Nat.beq t k || memN t r
def Slots.keep (l : List Nat) : Slots → Slots
 | [] => []
 | (k,u) :: r => match memN k l with
   | true => (k,u) :: Slots.keep l r
   | false => Slots.keep l r
def SV.root : SV → Option Nat
 | .ref s _ | .adr s _ | .adrx s _ | .adre s _ _ _ | .view s _ _ _ | .rng s _ _ => some s
 | _ => none
def SV.rootc : SV → Option (Nat × Nat × Nat)
 | .ref s (some c) | .adre s (some c) _ _ | .view s (some c) _ _ => some (s,c,1)
 | .rng s j n => some (s,j,n)
 | _ => none
def tSize (P : Program) (t : TypeId) : Nat:=((P.info? t).map (·.size)).getD 0
def tBytes (P : Program) (t : TypeId) : Nat:=((P.info? t).map (·.bytes)).getD 0
def tShape (P : Program) (t : TypeId) : Option (Option Nat) :=
 match P.info? t,P.underlying t with
 | some i,some (.struct _) => some (some i.size)
 | some i,some (.array _ _) => some (some i.size)
 | some i,some _ => if Nat.beq i.size 1 then some none else none
 | _,_ => none
def shN : Option Nat → Nat
 | some n => n
 | none => 1
def tElem (P : Program) (t : TypeId) : Option TypeId :=
 match P.underlying t with
 | some (.slice e) => some e
 | _ => none
def tPlain (P : Program) : Nat → TypeId → Bool
 | 0,_ => false
 | d + 1,t => match P.underlying t with
   | some .bool => true
   | some (.int _) => true
   | some .string => true
   | some (.struct fs) => fs.toList.all fun f => tPlain P d f.type
   | some (.array _ e) => tPlain P d e
   | _ => false
def cellTys (P : Program) : Nat → TypeId → List TypeId
 | 0,_ => []
 | d + 1,t => match P.underlying t with
   | some (.struct fs) => fs.toList.flatMap fun f => cellTys P d f.type
   | some (.array n e) => (List.replicate n (cellTys P d e)).flatten
   | _ => [t]
def shEq : Option Nat → Option Nat → Bool
 | none,none => true
 | some a,some b => Nat.beq a b
 | _,_ => false
def sure (P : Program) (t : TypeId) : Bool:=match P.info? t with
 | some i => i.str == "*btree.page"
 | none => false
def isPtr (sh : Option Nat) : PV → Bool
 | .ptr sh' _ => shEq sh sh'
 | _ => false
def cellPV : PV → Bool
 | .agg _ => false
 | _ => true
def eta1 (P : Program) (t : TypeId) (v : PV) : PV :=
 match P.underlying t with
 | some (.int k) => .int k v.toI
 | some .bool => .bool v.toB
 | some .string => .str v.toS
 | some (.slice e) => match tShape P e with
   | some sh => .sl sh v.toL
   | none => v
 | some (.pointer e) => match sure P t,tShape P e with
   | true,some sh => .ptr sh v.deref
   | _,_ => v
 | _ => v
def has1 (P : Program) (t : TypeId) (v : PV) : Bool :=
 match P.underlying t,v with
 | some (.int k),.int l _ => decide (k = l)
 | some (.int _),_ => false
 | some .bool,.bool _ => true
 | some .bool,_ => false
 | some .string,.str _ => true
 | some .string,_ => false
 | some (.slice e),.sl sh _ => match tShape P e with
   | some sh' => shEq sh' sh
   | none => true
 | some (.slice e),_ => match tShape P e with
   | some _ => false
   | none => true
 | some (.pointer e),v => match sure P t,tShape P e with
   | true,some sh => isPtr sh v
   | _,_ => cellPV v
 | _,.agg _ => false
 | _,_ => true
def etaCells (P : Program) : List TypeId → List PV → List PV
 | [],_ => []
 | t :: ts,cs => eta1 P t (cs.headD .undef) :: etaCells P ts cs.tail
def hasCells (P : Program) : List TypeId → List PV → Bool
 | [],cs => cs.isEmpty
 | t :: ts,c :: cs => has1 P t c && hasCells P ts cs
 | _ :: _,[] => false
def etaT (P : Program) (t : TypeId) (v : PV) : PV :=
 match tShape P t with
 | some (some _) => .agg (etaCells P (cellTys P 8 t) v.cells)
 | _ => eta1 P t v
def isAgg : PV → Bool
 | .agg _ => true
 | _ => false
def isCell : PV → Bool
 | .agg _ => false
 | .undef => false
 | _ => true
def hasT (P : Program) (t : TypeId) (v : PV) : Bool :=
 match tShape P t with
 | some (some _) => isAgg v && hasCells P (cellTys P 8 t) v.cells
 | _ => has1 P t v
def pvOfConst : Value → Option PV
 | .bool b => some (.bool b)
 | .int k n => some (.int k n)
 | .string s => some (.str s.data.toList)
 | .pointer none => some .nilp
 | .nilFunc => some .nilfn
 | .tuple vs => match vs.toList with
   | [] => some .undef
   | _ => none
 | _ => none
def emptyRow (P : Program) (t : TypeId) : Option OV :=
 match tElem P t with
 | some e => match P.underlying e with
   | some (.slice _) => some (.cont .nest [])
   | _ => (tShape P e).map fun sh => .flat (.own sh [] [])
 | none => none
def ovOfConst (P : Program) (t : TypeId) : Value → Option OV
 | .slice none 0 0 => emptyRow P t
 | v => (pvOfConst v).map .val
def cellMatches : FV → Value → Bool
 | .nil _,.slice none 0 0 => true
 | .val (.bool false),.bool false => true
 | .val (.int k n),.int l m => decide (k = l) && decide (n = m)
 | .val (.str []),.string s => Nat.beq s.data.toList.length 0
 | .val .nilp,.pointer none => true
 | .val .nilfn,.nilFunc => true
 | _,_ => false
def cellsMatch : List FV → List Value → Bool
 | [],[] => true
 | f :: fs,v :: vs => cellMatches f v && cellsMatch fs vs
 | _,_ => false
def zeroT (P : Program) : Nat → TypeId → Option (List FV)
 | 0,_ => none
 | d + 1,t => match P.underlying t with
   | some .bool => some [.val (.bool false)]
   | some (.int k) => some [.val (.int k 0)]
   | some .string => some [.val (.str [])]
   | some (.pointer _) => some [.val .nilp]
   | some (.func _ _ _) => some [.val .nilfn]
   | some (.slice e) => (tShape P e).map fun sh => [.nil sh]
   | some (.struct fs) => fs.toList.foldr (fun f r => match zeroT P d f.type,r with
     | some a,some b => some (a ++ b)
     | _,_ => none) (some [])
   | some (.array n e) => match zeroT P d e with
     | some a => some (List.flatten (List.replicate n a))
     | none => none
   | _ => none
def tZero (P : Program) (t : TypeId) : Option (List FV) :=
 match zeroT P 8 t,(P.info? t).bind (·.zero) with
 | some fs,some z => if cellsMatch fs z.cells.toList then some fs else none
 | _,_ => none
def FV.frz : FV → PV
 | .val v => v
 | .nil sh => .sl sh []
 | .own sh xs _ => .sl sh xs
 | .gone => .undef
def twos : List PV → List PV
 | a :: b :: r => .agg [a,b] :: twos r
 | _ => []
def OV.frz : OV → PV
 | .flat f => f.frz
 | .cont .agg cs => .agg (cs.map FV.frz)
 | .cont .box cs => .ptr (some cs.length) (.agg (cs.map FV.frz))
 | .cont .nest cs => .sl none (cs.map FV.frz)
 | .cont .ents cs => .sl (some 2) (twos (cs.map FV.frz))
 | .cont .tup _ => .undef
 | .tn _ _ => .undef
def FV.whole : FV → Bool
 | .gone => false
 | _ => true
def OV.whole : OV → Bool
 | .flat f => f.whole
 | .cont .agg cs => cs.all FV.whole
 | .cont .box cs => cs.all FV.whole
 | .cont .nest _ => true
 | .cont .ents _ => true
 | .cont .tup _ => false
 | .tn _ _ => false
def OV.pv (o : OV) : Option PV:=match o.whole with
 | true => some o.frz
 | false => none
def FV.isVal : FV → Bool
 | .val _ => true
 | .nil _ => true
 | _ => false
def OV.ofAgg (cs : List FV) : OV:=match cs.all FV.isVal with
 | true => .val (.agg (cs.map FV.frz))
 | false => .cont .agg cs
def partOf (sh : Option Nat) (off : Nat) (cs : List PV) : Option PV :=
 match sh with
 | none => cs[off]?
 | some n => match Nat.ble (off + n) cs.length with
   | true => some (.agg ((cs.drop off).take n))
   | false => none
structure Arg where
 sv : SV
 rt : Option (Nat × OV)
def rooted (st : Slots) (v : SV) (r : Nat) : Option Arg :=
 match st.get r with
 | .home o => some ⟨v,some (r,o)⟩
 | _ => none
def fetch (P : Program) (st : Slots) (t : TypeId) : Operand → Option Arg
 | .const v => match ovOfConst P t v with
   | some o => some ⟨.home o,none⟩
   | none => none
 | .func f => some ⟨.val (.fn (.func f) [] []),none⟩
 | .global _ => none
 | .tmp s => match st.get s with
   | .dead => none
   | .home (.flat (.val v)) => some ⟨.val v,none⟩
   | .home (.flat (.nil sh)) => some ⟨.home (.flat (.nil sh)),none⟩
   | .home o => some ⟨.ref s none,some (s,o)⟩
   | .fadr sh v => some ⟨.fadr sh v,none⟩
   | .ref r c => rooted st (.ref r c) r
   | .adr r j => rooted st (.adr r j) r
   | .adrx r j => rooted st (.adrx r j) r
   | .adre r c i off => rooted st (.adre r c i off) r
   | .view r c l h => rooted st (.view r c l h) r
   | .rng r j n => rooted st (.rng r j n) r
def OV.at (o : OV) : Option Nat → Option OV
 | none => some o
 | some j => match o with
   | .cont _ cs => match cs[j]? with
     | some f => some (.flat f)
     | none => none
   | _ => none
def Arg.ov (a : Arg) : Option OV :=
 match a.sv,a.rt with
 | .home o,_ => some o
 | .ref _ c,some (_,o) => o.at c
 | _,_ => none
def OV.row : OV → Option (Option Nat × List PV)
 | .flat (.val (.sl sh xs)) => some (sh,xs)
 | .flat (.nil sh) => some (sh,[])
 | .flat (.own sh xs _) => some (sh,xs)
 | .cont .nest cs => some (none,cs.map FV.frz)
 | _ => none
def Arg.row (a : Arg) : Option (Option Nat × List PV) :=
 match a.sv,a.rt with
 | .home o,_ => o.row
 | .ref _ c,some (_,o) => match o.at c with
   | some x => x.row
   | none => none
 | .view _ c l h,some (_,o) => match o.at c with
   | some (.flat (.own sh xs _)) => some (sh,(xs.drop l).take (h - l))
   | _ => none
 | _,_ => none
def Arg.pv (a : Arg) : Option PV :=
 match a.sv,a.rt with
 | .home o,_ => o.pv
 | .ref _ c,some (_,o) => match o.at c with
   | some x => x.pv
   | none => none
 | .view ..,_ => match a.row with
   | some (sh,xs) => some (.sl sh xs)
   | none => none
 | .rng _ j n,some (_,.cont _ cs) => match Nat.ble (j + n) cs.length && ((cs.drop j).take n).all FV.whole with
   | true => some (.agg (((cs.drop j).take n).map FV.frz))
   | false => none
 | .fadr sh v,_ => some (.ptr sh v)
 | _,_ => none
def Arg.int (a : Arg) : Option Int :=
 match a.sv with
 | .home (.flat (.val (.int _ n))) => some n
 | _ => none
def Arg.bool (a : Arg) : Option Bool :=
 match a.sv with
 | .home (.flat (.val (.bool b))) => some b
 | _ => none
inductive Cut where
 | no | all | cells (lo n : Nat)
structure Edit where
 s : Nat
 v : SV
 cut : Cut
def SV.cutAll (s : Nat) (v : SV) : SV:=match v.root with
 | some r => match Nat.beq r s with
   | true => .dead
   | false => v
 | none => v
def SV.cutCells (s lo n : Nat) (v : SV) : SV:=match v.rootc with
 | some (r,c,m) => match Nat.beq r s && (Nat.blt lo (c + m) && Nat.blt c (lo + n)) with
   | true => .dead
   | false => v
 | none => v
def Cut.on (k : Cut) (s : Nat) (st : Slots) : Slots :=
 match k with
 | .no => st
 | .all => st.mapv (SV.cutAll s)
 | .cells lo n => st.mapv (SV.cutCells s lo n)
def Edit.on (e : Edit) (st : Slots) : Slots:=(e.cut.on e.s st).ins e.s e.v
def edits : List Edit → Slots → Slots
 | [],st => st
 | e :: r,st => edits r (e.on st)
def Slots.put (st : Slots) (d : Nat) (v : SV) : Slots:=Edit.on ⟨d,v,.all⟩ st
def setAt (s : Nat) (o : OV) (c : Option Nat) (f : OV) : Option Edit :=
 match c with
 | none => some ⟨s,.home f,.all⟩
 | some j => match o,f with
   | .cont .nest _,.flat .gone => none
   | .cont .ents _,.flat .gone => none
   | .cont k cs,.flat g => some ⟨s,.home (.cont k (cs.set j g)),.cells j 1⟩
   | _,_ => none
def FV.left (f : FV) : FV:=match f.isVal with
 | true => f
 | false => .gone
def one (e : Option Edit) : Option (List Edit):=match e with
 | some e => some [e]
 | none => none
def Arg.take (a : Arg) : Option (List Edit) :=
 match a.sv,a.rt with
 | .home _,_ => some []
 | .ref s none,some _ => some [⟨s,.dead,.all⟩]
 | .ref s (some j),some (_,o) => one (setAt s o (some j) (.flat .gone))
 | .rng s j n,some (_,.cont .agg cs) => some [⟨s,.home (.cont .agg (cs.take j ++ (((cs.drop j).take n).map FV.left) ++ cs.drop (j + n))),.cells j n⟩]
 | .rng s j n,some (_,.cont .box cs) => some [⟨s,.home (.cont .box (cs.take j ++ (((cs.drop j).take n).map FV.left) ++ cs.drop (j + n))),.cells j n⟩]
 | _,_ => none
def Arg.freeze (a : Arg) : Option (List Edit) :=
 match a.sv,a.rt with
 | .home _,_ => some []
 | .fadr ..,_ => some []
 | .ref s c,some (_,o) => match o.at c with
   | some x => match x.pv with
     | some v => one (setAt s o c (.val v))
     | none => none
   | none => none
 | .view s c _ _,some (_,o) => match o.at c with
   | some x => match x.pv with
     | some v => one (setAt s o c (.val v))
     | none => none
   | none => none
 | _,_ => none
abbrev Q (α : Type):=List Bool × Option α
abbrev Res:=Q (List Edit × SV)
def no {α : Type} : Q α := ([],none)
def ok {α : Type} (a : α) : Q α := ([],some a)
def need {α : Type} (c : Bool) (q : Q α) : Q α := (c :: q.1,q.2)
def quiet (v : SV) : Res:=ok ([],v)
def quietP (v : PV) : Res:=quiet (.val v)
def withA {α β : Type} (a : Option α) (f : α → Q β) : Q β := match a with
 | some a => f a
 | none => no
end Go.Ev

namespace Go.Ev
def cMove (a : Arg) : Res:=quiet a.sv
def cAssign (a : Arg) : Res :=
 match a.sv,a.rt with
 | .ref _ none,some (_,o) => match a.take with
   | some es => ok (es,.home o)
   | none => no
 | .ref _ (some j),some (_,.cont .tup cs) => match cs[j]?,a.take with
   | some f,some es => ok (es,.home (.flat f))
   | _,_ => no
 | v,_ => quiet v
def intOp (op : BinOp) (k : IntKind) (a b : Int) : Q PV :=
 match op with
 | .add => ok (.int k (k.wrap (a + b)))
 | .sub => ok (.int k (k.wrap (a - b)))
 | .mul => ok (.int k (k.wrap (a * b)))
 | .quo => need (b != 0) (ok (.int k (k.wrap (a.tdiv b))))
 | .rem => need (b != 0) (ok (.int k (a.tmod b)))
 | .and => ok (.int k (k.wrap (BitVec.ofInt k.bits a &&& BitVec.ofInt k.bits b).toNat))
 | .or => ok (.int k (k.wrap (BitVec.ofInt k.bits a ||| BitVec.ofInt k.bits b).toNat))
 | .xor => ok (.int k (k.wrap (BitVec.ofInt k.bits a ^^^ BitVec.ofInt k.bits b).toNat))
 | .andNot => ok (.int k (k.wrap (BitVec.ofInt k.bits a &&& ~~~ BitVec.ofInt k.bits b).toNat))
 | .eql => ok (.bool (a == b))
 | .neq => ok (.bool (a != b))
 | .lss => ok (.bool (decide (a < b)))
 | .leq => ok (.bool (decide (a ≤ b)))
 | .gtr => ok (.bool (decide (a > b)))
 | .geq => ok (.bool (decide (a ≥ b)))
 | _ => no
def shl (k : IntKind) (a b : Int) : PV := .int k (k.wrap (a * 2 ^ (min b.toNat k.bits)))
def shr (k : IntKind) (a b : Int) : PV := .int k (a.fdiv (2 ^ (min b.toNat k.bits)))
def strOp (op : BinOp) (x y : List UInt8) : Q PV :=
 match op with
 | .add => need (Nat.ble (x.length + y.length) 9223372036854775807) (ok (.str (x ++ y)))
 | .eql => ok (.bool (x == y))
 | .neq => ok (.bool (!(x == y)))
 | .lss => ok (.bool (Op.bytesLess x y))
 | .leq => ok (.bool (Op.bytesLess x y || x == y))
 | .gtr => ok (.bool (!(Op.bytesLess x y || x == y)))
 | .geq => ok (.bool (!(Op.bytesLess x y)))
 | _ => no
def eqFs (P : Program) (f : TypeId → List PV → List PV → Option Bool) : Nat → List Field → List PV → List PV → Option Bool
 | _,[],_,_ => some true
 | off,g :: r,a,b => match !(g.name == "_") && Nat.beq g.offset off && Nat.ble (tSize P g.type) a.length && Nat.ble (tSize P g.type) b.length,
    f g.type (a.take (tSize P g.type)) (b.take (tSize P g.type)),eqFs P f (off + tSize P g.type) r (a.drop (tSize P g.type)) (b.drop (tSize P g.type)) with
   | true,some x,some y => some (x && y)
   | _,_,_ => none
def eqT (P : Program) : Nat → TypeId → List PV → List PV → Option Bool
 | 0,_,_,_ => none
 | d + 1,t,a,b => match P.underlying t with
   | some .bool => match a,b with
     | [.bool x],[.bool y] => some (x == y)
     | _,_ => none
   | some (.int _) => match a,b with
     | [.int k x],[.int l y] => match decide (k = l) with
       | true => some (x == y)
       | false => none
     | _,_ => none
   | some .string => match a,b with
     | [.str x],[.str y] => some (x == y)
     | _,_ => none
   | some (.struct fs) => match P.stoodInHeld t with
     | false => eqFs P (eqT P d) 0 fs.toList a b
     | true => none
   | _ => none
def cBin (P : Program) (op : BinOp) (xt : TypeId) (x y : Arg) : Res :=
 match x.sv,y.sv with
 | .home (.flat (.val (.int k a))),.home (.flat (.val (.int l b))) =>
   match op with
   | .shl => need (decide (0 ≤ b)) (quietP (shl k a b))
   | .shr => need (decide (0 ≤ b)) (quietP (shr k a b))
   | op => match decide (k = l) with
     | true => let q:=intOp op k a b;(q.1,match q.2 with | some v => some ([],.val v) | none => none)
     | false => no
 | .home (.flat (.val (.str a))),.home (.flat (.val (.str b))) => let q:=strOp op a b;(q.1,match q.2 with | some v => some ([],.val v) | none => none)
 | .home (.flat (.val (.bool a))),.home (.flat (.val (.bool b))) =>
   match P.underlying xt,op with
   | some .bool,.eql => quietP (.bool (a == b))
   | some .bool,.neq => quietP (.bool (!(a == b)))
   | _,_ => no
 | .home (.flat (.val (.agg a))),.home (.flat (.val (.agg b))) =>
   match P.eqGuardType P.depth xt with
   | false => match P.underlying xt,op with
     | some (.struct _),.eql => withA (eqT P 8 xt a b) fun r => quietP (.bool r)
     | some (.struct _),.neq => withA (eqT P 8 xt a b) fun r => quietP (.bool (!r))
     | _,_ => no
   | true => no
 | .ref _ none,.home (.flat (.val .nilp)) => match x.rt,P.underlying xt,op with
   | some (_,.cont .box _),some (.pointer _),.eql => quietP (.bool false)
   | some (_,.cont .box _),some (.pointer _),.neq => quietP (.bool true)
   | _,_,_ => no
 | _,_ => no
def cUn (op : UnOp) (x : Arg) : Res :=
 match op,x.sv with
 | .neg,.home (.flat (.val (.int k n))) => quietP (.int k (k.wrap (0 - n)))
 | .not,.home (.flat (.val (.bool b))) => quietP (.bool (!b))
 | _,_ => no
def isByte : PV → Bool
 | .int .u8 n => decide (0 ≤ n) && decide (n < 256)
 | _ => false
def u8Of : PV → UInt8
 | .int _ n => UInt8.ofNat n.toNat
 | _ => 0
def pvByte (b : UInt8) : PV := .int .u8 b.toNat
def cConvert (P : Program) (src dst : TypeId) (x : Arg) : Res :=
 match P.underlying src,P.underlying dst with
 | some (.int _),some (.int k) => match x.sv with
   | .home (.flat (.val (.int _ n))) => quietP (.int k (k.wrap n))
   | _ => no
 | some .string,some .string => match x.sv with
   | .home (.flat (.val (.str s))) => quietP (.str s)
   | _ => no
 | some (.slice e),some .string => match P.underlying e,x.row with
   | some (.int .u8),some (sh,xs) => match shEq sh none with
     | true => need (xs.all isByte) (quietP (.str (xs.map u8Of)))
     | false => no
   | _,_ => no
 | some .string,some (.slice e) => match P.underlying e,x.sv with
   | some (.int .u8),.home (.flat (.val (.str s))) => match Nat.beq (tSize P e) 1 with
     | true => need (Nat.ble s.length 9223372036854775807) (quietP (.sl none (s.map pvByte)))
     | false => no
   | _,_ => no
 | some (.slice e),some (.slice _) => match P.underlying e,Nat.beq src dst with
   | some (.int .u8),true => match x.sv,x.rt with
     | .ref s none,some (_,.flat (.own sh xs _)) => need (Nat.blt 0 xs.length) (ok ([⟨s,.home (.flat (.val (.sl sh xs))),.all⟩],.val (.sl sh xs)))
     | _,_ => no
   | _,_ => no
 | _,_ => no
def cutOk (n : Nat) (lo hi mx : Option Int) : List Bool :=
 (match lo with | some l => [decide (0 ≤ l)] | none => []) ++
 (match lo,hi with
   | some l,some h => [decide (l ≤ h)]
   | some l,none => [decide (l ≤ n)]
   | none,some h => [decide (0 ≤ h)]
   | none,none => []) ++
 (match hi,mx with
   | some h,some m => [decide (h ≤ m),decide (m ≤ n)]
   | some h,none => [decide (h ≤ n)]
   | none,_ => [])
def cutL (lo : Option Int) : Nat:=match lo with | some l => l.toNat | none => 0
def cutH (n : Nat) (hi : Option Int) : Nat:=match hi with | some h => h.toNat | none => n
def cutRow {α : Type} (xs : List α) (lo hi : Option Int) : List α :=
 match lo,hi with
 | some l,some h => (xs.take h.toNat).drop l.toNat
 | some l,none => xs.drop l.toNat
 | none,some h => xs.take h.toNat
 | none,none => xs
def cSlice (P : Program) (t : TypeId) (x : Arg) (lo hi mx : Option Int) : Res :=
 match hi,mx with
 | none,some _ => no
 | _,_ =>
 match P.underlying t with
 | some .string => match x.sv,mx with
   | .home (.flat (.val (.str s))),none => (cutOk s.length lo hi none,some ([],.val (.str (cutRow s lo hi))))
   | _,_ => no
 | some (.slice e) => match tShape P e,x.row with
   | some sh0,some (sh,xs) => match shEq sh0 sh with
     | true => (match x.sv with
       | .home (.flat (.val _)) => (cutOk xs.length lo hi mx,some ([],.val (.sl sh (cutRow xs lo hi))))
       | .ref s c => (cutOk xs.length lo hi mx,some ([],.view s c (cutL lo) (cutH xs.length hi)))
       | .view s c l0 _ => (cutOk xs.length lo hi mx,some ([],.view s c (l0 + cutL lo) (l0 + cutH xs.length hi)))
       | _ => no)
     | false => no
   | _,_ => no
 | _ => no
def nthP (xs : List PV) (i : Nat) : PV:=xs.getD i .undef
def adrOf (cx : Bool) (s j : Nat) : SV:=match cx with
 | true => .adr s j
 | false => .adrx s j
def cIndexAddr (P : Program) (t : TypeId) (cx : Bool) (x i : Arg) : Res :=
 withA i.int fun i =>
  need (decide (0 ≤ i)) <|
  match P.underlying t with
  | some (.slice e) =>
    match tShape P e,x.sv,x.rt with
    | some sh,.home (.flat (.val (.sl sh' xs))),_ => match shEq sh sh' with
      | true => need (decide (i < xs.length)) (need (hasT P e (nthP xs i.toNat)) (quiet (.fadr sh (etaT P e (nthP xs i.toNat)))))
      | false => no
    | some sh,.ref s c,some (_,o) => match o.at c with
      | some (.flat (.own sh' xs _)) => match shEq sh sh' with
        | true => need (decide (i < xs.length)) (quiet (.adre s c i.toNat 0))
        | false => no
      | some (.cont .nest cs) => match c,sh with
        | none,none => need (decide (i < cs.length)) (quiet (.adr s i.toNat))
        | _,_ => no
      | _ => no
    | some sh,.view s c l h,some (_,o) => match o.at c with
      | some (.flat (.own sh' xs _)) => match shEq sh sh' with
        | true => need (decide (i < (((xs.drop l).take (h - l)).length : Nat))) (quiet (.adre s c (l + i.toNat) 0))
        | false => no
      | _ => no
    | _,_,_ => no
  | some (.array n e) =>
    match Nat.ble 2 n,tShape P e with
    | true,some sh => need (decide (i < n)) <| match x.sv,x.rt with
      | .ref s none,some (_,.cont .box _) => quiet (adrOf cx s (i.toNat * shN sh))
      | .adr s j,some (_,.cont .box _) => quiet (adrOf cx s (j + i.toNat * shN sh))
      | .adrx s j,some (_,.cont .box _) => quiet (.adrx s (j + i.toNat * shN sh))
      | _,_ => no
    | _,_ => no
  | _ => no
def rangeVals (cs : List FV) (j n : Nat) : Option (List PV) :=
 match Nat.ble (j + n) cs.length,((cs.drop j).take n).all FV.isVal with
 | true,true => some (((cs.drop j).take n).map FV.frz)
 | _,_ => none
def loadCells (s j : Nat) (cs : List FV) (sh : Option Nat) : Res :=
 match sh with
 | none => match cs[j]? with
   | some (.val v) => quietP v
   | some (.nil sh) => quiet (.home (.flat (.nil sh)))
   | some (.own _ _ _) => quiet (.ref s (some j))
   | _ => no
 | some n => match rangeVals cs j n with
   | some vs => quietP (.agg vs)
   | none => match Nat.ble (j + n) cs.length with
     | true => quiet (.rng s j n)
     | false => no
def partAt (sh : Option Nat) (l : List FV) : PV:=match sh with
 | none => match l with
   | c :: _ => c.frz
   | [] => .undef
 | some n => .agg ((l.take n).map FV.frz)
def pickAt (sh : Option Nat) (j : Nat) : Nat → List FV → PV
 | _,[] => .undef
 | q,c :: cs => match Nat.beq j q with
   | true => partAt sh (c :: cs)
   | false => pickAt sh j (q + 1) cs
def etaLike (old v : PV) : PV:=match old with
 | .int k _ => .int k v.toI
 | .bool _ => .bool v.toB
 | .str _ => .str v.toS
 | .sl sh _ => .sl sh v.toL
 | _ => v
def hasLike (old v : PV) : Bool:=match old,v with
 | .int k _,.int l _ => decide (k = l)
 | .int _ _,_ => false
 | .bool _,.bool _ => true
 | .bool _,_ => false
 | .str _,.str _ => true
 | .str _,_ => false
 | .sl sh _,.sl sh' _ => shEq sh sh'
 | .sl _ _,_ => false
 | _,_ => true
def newAt (j q : Nat) (u : List PV) (old : PV) : PV:=match Nat.ble j q && Nat.blt q (j + u.length) with
 | true => u.getD (q - j) .undef
 | false => old
def putX (j : Nat) (u : List PV) : Nat → List FV → List FV
 | _,[] => []
 | q,c :: cs => .val (etaLike c.frz (newAt j q u c.frz)) :: putX j u (q + 1) cs
def putXok (j : Nat) (u : List PV) : Nat → List FV → Bool
 | _,[] => true
 | q,c :: cs => hasLike c.frz (newAt j q u c.frz) && putXok j u (q + 1) cs
def allPure : List FV → Bool
 | [] => true
 | .val _ :: r => allPure r
 | _ => false
def partX (sh : Option Nat) (off : Nat) (x : PV) : PV:=match sh with
 | none => x.cells.getD off .undef
 | some m => .agg ((x.cells.drop off).take m)
def cLoad (P : Program) (t : TypeId) (a : Arg) : Res :=
 match tShape P t with
 | none => no
 | some sh =>
   match a.sv,a.rt with
   | .fadr sh' v,_ => match shEq sh sh' with
     | true => quietP v
     | false => no
   | .home (.flat (.val (.ptr sh' v))),_ => match shEq sh sh' with
     | true => need (hasT P t v) (quietP (etaT P t v))
     | false => match sh,sh',v with
       | none,some 1,.agg [x] => need (hasT P t x) (quietP (etaT P t x))
       | _,_,_ => no
   | .ref s none,some (_,.cont .box cs) => loadCells s 0 cs sh
   | .adr s j,some (_,.cont _ cs) => loadCells s j cs sh
   | .adrx _ j,some (_,.cont .box cs) => match allPure cs with
     | true => need (Nat.ble (j + shN sh) cs.length && Nat.blt j cs.length) (need (hasT P t (pickAt sh j 0 cs)) (quietP (etaT P t (pickAt sh j 0 cs))))
     | false => no
   | .adre _ c i off,some (_,o) => match o.at c with
     | some (.flat (.own sh0 xs _)) => match Nat.beq off 0 && shEq sh0 sh with
       | true => need (Nat.blt i xs.length) (need (hasT P t (nthP xs i)) (quietP (etaT P t (nthP xs i))))
       | false => match sh0 with
         | some _ => need (Nat.blt i xs.length) (need (isAgg (nthP xs i) && Nat.ble (off + shN sh) (nthP xs i).cells.length) (need (hasT P t (partX sh off (nthP xs i))) (quietP (etaT P t (partX sh off (nthP xs i))))))
         | none => no
     | _ => no
   | _,_ => no
def Arg.asCells (sh : Option Nat) (a : Arg) : Option (List FV × List Edit) :=
 match a.sv,a.rt with
 | .rng _ j n,some (_,.cont _ cs) => match sh,a.take with
   | some m,some es => match Nat.beq m n && Nat.ble (j + n) cs.length with
     | true => some ((cs.drop j).take n,es)
     | false => none
   | _,_ => none
 | _,_ =>
 match a.ov with
 | some (.flat (.val v)) => match sh,v with
   | none,.agg _ => none
   | none,.undef => none
   | none,v => some ([.val v],[])
   | some n,.agg cs => match Nat.beq cs.length n with
     | true => some (cs.map .val,[])
     | false => none
   | some _,_ => none
 | some (.flat f) => match sh,a.take,f.whole with
   | none,some es,true => some ([f],es)
   | _,_,_ => none
 | some (.cont .agg cs) => match sh,a.take with
   | some n,some es => match Nat.beq cs.length n with
     | true => some (cs,es)
     | false => none
   | _,_ => none
 | _ => none
def notOn (s : Nat) (es : List Edit) : Bool:=es.all fun e => !(Nat.beq e.s s)
def storeAt (s j : Nat) (k : CK) (cs new : List FV) (es : List Edit) : Res :=
 match Nat.ble (j + new.length) cs.length && new.all FV.whole,notOn s es with
 | true,true => ok (es ++ [⟨s,.home (.cont k (cs.take j ++ new ++ cs.drop (j + new.length))),.cells j new.length⟩],.val .undef)
 | _,_ => no
def pvFits (sh : Option Nat) (v : PV) : Bool :=
 match sh,v with
 | none,v => isCell v
 | some n,.agg cs => Nat.beq cs.length n
 | some _,_ => false
def setPart (sh0 sh : Option Nat) (off : Nat) (x u : PV) : Q PV :=
 match Nat.beq off 0 && shEq sh0 sh with
 | true => ok u
 | false => match sh0 with
   | some n => match Nat.ble (off + u.cells.length) n,Nat.beq u.cells.length (shN sh) with
     | true,true => need (isAgg x && Nat.beq x.cells.length n) (ok (.agg (x.cells.take off ++ u.cells ++ x.cells.drop (off + u.cells.length))))
     | _,_ => no
   | none => no
def setRow (c : Option Nat) (o : OV) (f : FV) : Option OV :=
 match c with
 | none => some (.flat f)
 | some j => match o with
   | .cont k cs => some (.cont k (cs.set j f))
   | _ => none
def cStore (P : Program) (t : TypeId) (a v : Arg) : Res :=
 match tShape P t with
 | none => no
 | some sh =>
   match a.sv,a.rt with
   | .ref s none,some (_,.cont .box cs) => withA (v.asCells sh) fun p => storeAt s 0 .box cs p.1 p.2
   | .adr s j,some (_,.cont .box cs) => withA (v.asCells sh) fun p => storeAt s j .box cs p.1 p.2
   | .adrx s j,some (_,.cont .box cs) => match v.sv with
     | .home (.flat (.val u)) => match allPure cs && pvFits sh u with
       | true => need (Nat.ble (j + shN sh) cs.length) (need (putXok j u.cells 0 cs) (ok ([⟨s,.home (.cont .box (putX j u.cells 0 cs)),.cells 0 cs.length⟩],.val .undef)))
       | false => no
     | _ => no
   | .adr s j,some (_,.cont .nest cs) => match sh with
     | none => withA (v.asCells none) fun p => storeAt s j .nest cs p.1 p.2
     | some _ => no
   | .adre s c i off,some (_,o) => match o.at c,v.sv with
     | some (.flat (.own sh0 xs _)),.home (.flat (.val u)) => match pvFits sh u with
       | true => need (Nat.blt i xs.length) <|
         let q:=setPart sh0 sh off (nthP xs i) u
         (q.1,match q.2 with
           | some x' => match setRow c o (.own sh0 (xs.set i x') []) with
             | some o' => some ([⟨s,.home o',.no⟩],.val .undef)
             | none => none
           | none => none)
       | false => no
     | _,_ => no
   | _,_ => no
def fieldOf (P : Program) (t : TypeId) (f : Nat) : Option (Nat × Option Nat × TypeId) :=
 match P.underlying t with
 | some (.struct fs) => match fs[f]? with
   | some g => match Nat.beq (tSize P g.type) 0,tShape P g.type with
     | false,some sh => some (g.offset,sh,g.type)
     | _,_ => none
   | none => none
 | _ => none
def isPtrS : PV → Bool
 | .ptr (some _) _ => true
 | _ => false
def cFieldAddr (P : Program) (t : TypeId) (f : Nat) (x : Arg) : Res :=
 withA (fieldOf P t f) fun (off,sh,_) =>
  match x.sv,x.rt with
  | .ref s none,some (_,.cont .box _) => quiet (.adr s off)
  | .adr s j,some (_,.cont .box _) => quiet (.adr s (j + off))
  | .adrx s j,some (_,.cont .box _) => quiet (.adrx s (j + off))
  | .adre s c i o,some (_,oo) => match oo.at c with
    | some (.flat (.own _ _ _)) => quiet (.adre s c i (o + off))
    | _ => no
  | .fadr (some _) (.agg cs),_ => withA (partOf sh off cs) fun v => quiet (.fadr sh v)
  | .home (.flat (.val p)),_ => need (isPtrS p && hasT P t p.deref) <| match etaT P t p.deref with
    | .agg cs => withA (partOf sh off cs) fun v => quiet (.fadr sh v)
    | _ => no
  | _,_ => no
def cField (P : Program) (t : TypeId) (f : Nat) (x : Arg) : Res :=
 withA (fieldOf P t f) fun (off,sh,_) =>
  match x.sv,x.rt with
  | .home (.flat (.val (.agg cs))),_ => withA (partOf sh off cs) quietP
  | .ref s none,some (_,.cont .agg cs) => loadCells s off cs sh
  | _,_ => no
def cIndex (P : Program) (t : TypeId) (x i : Arg) : Res :=
 withA i.int fun i =>
  match P.underlying t,x.sv with
  | some .string,.home (.flat (.val (.str s))) => need (decide (0 ≤ i)) (need (decide (i < s.length)) (quietP (pvByte (s.getD i.toNat 0))))
  | _,_ => no
def cLen (P : Program) (t : TypeId) (x : Arg) : Res :=
 match P.underlying t with
 | some .string => match x.sv with
   | .home (.flat (.val (.str s))) => quietP (.int .i64 s.length)
   | _ => no
 | some (.slice _) => match x.row with
   | some (_,xs) => quietP (.int .i64 xs.length)
   | none => no
 | _ => no
def isFn : PV → Bool
 | .fn (.func _) _ _ => true
 | _ => false
def isPtrV : PV → Bool
 | .ptr _ _ => true
 | _ => false
def cNilCheck (P : Program) (t : TypeId) (x : Arg) : Res :=
 match x.sv,x.rt with
 | .home (.flat (.val v)),_ => match P.underlying t with
   | some (.pointer e) => match tShape P e with
     | some sh => need (isPtr sh v && hasT P e v.deref) (quietP (.ptr sh (etaT P e v.deref)))
     | none => no
   | some (.func _ _ _) => need (isFn v) (quietP v)
   | _ => need (isPtrV v) (quietP v)
 | .ref s none,some (_,.cont .box _) => quiet (.ref s none)
 | .adr s j,some (_,.cont .box _) => quiet (.adr s j)
 | .adrx s j,some (_,.cont .box _) => quiet (.adrx s j)
 | .fadr sh v,_ => quiet (.fadr sh v)
 | _,_ => no
def fillParts (place : Nat → Option (Nat × Option Nat)) : List FV → List (Nat × Arg) → Option (List FV × List Edit)
 | cs,[] => some (cs,[])
 | cs,(i,a) :: r => match place i with
   | none => none
   | some (off,sh) => match a.asCells sh with
     | none => none
     | some (new,es) => match Nat.ble (off + new.length) cs.length with
       | true => match fillParts place (cs.take off ++ new ++ cs.drop (off + new.length)) r with
         | some (cs',es') => some (cs',es ++ es')
         | none => none
       | false => none
def onceEach : List Edit → Bool
 | [] => true
 | e :: r => notOn e.s r && onceEach r
def FV.room : FV → FV
 | .nil sh => .own sh [] []
 | f => f
def roomy (P : Program) (t : TypeId) : Bool:=match P.info? t with
 | some i => i.str == "api.Span" || i.str == "vestryref14.Tree"
 | none => false
def OV.ofAggT : Bool → List FV → OV
 | true,cs => .cont .agg (cs.map FV.room)
 | false,cs => OV.ofAgg cs
def cBuild (P : Program) (t : TypeId) (parts : List (Nat × Arg)) : Res :=
 match tZero P t,P.underlying t with
 | some zs,some (.struct _) => match fillParts (fun i => match fieldOf P t i with | some (off,sh,_) => some (off,sh) | none => none) zs parts with
   | some (cs,es) => match onceEach es with
     | true => ok (es,.home (OV.ofAggT (roomy P t) cs))
     | false => no
   | none => no
 | some zs,some (.array _ e) => match tShape P e with
   | some sh => match fillParts (fun i => some (i * shN sh,sh)) zs parts with
     | some (cs,es) => match onceEach es with
       | true => ok (es,.home (OV.ofAgg cs))
       | false => no
     | none => no
   | none => no
 | _,_ => no
def rowParts (sh : Option Nat) : Nat → List (Nat × Arg) → Option (List PV)
 | _,[] => some []
 | n,(i,a) :: r => match a.sv with
   | .home (.flat (.val v)) => match Nat.beq i n && pvFits sh v,rowParts sh (n + 1) r with
     | true,some vs => some (v :: vs)
     | _,_ => none
   | _ => none
def nestParts : Nat → List (Nat × Arg) → Option (List FV × List Edit)
 | _,[] => some ([],[])
 | n,(i,a) :: r => match Nat.beq i n,a.asCells none,nestParts (n + 1) r with
    | true,some (new,es),some (cs,es') => some (new ++ cs,es ++ es')
    | _,_,_ => none
def zeroOk (P : Program) (e : TypeId) (n : Nat) : Bool:=match (P.info? e).bind (·.zero) with
 | some z => Nat.beq z.cells.size n
 | none => false
def pairRow : List (Nat × Arg) → Option (List FV × List Edit)
 | [(0,⟨.ref s (some j),some (r,.cont k cs)⟩),(1,⟨.ref s' (some j'),some (r',.cont k' cs')⟩)] =>
   match Nat.beq s s' && Nat.beq j' (j + 1) && Nat.beq r s && Nat.ble (j + 2) cs.length,(cs.drop j).take 2 with
   | true,[.own none xs sp,.own none ys sq] => match Arg.take ⟨.rng s j 2,some (s,.cont k cs)⟩ with
     | some es => some ([.own none xs sp,.own none ys sq],es)
     | none => none
   | _,_ => none
 | _ => none
def onePart : List (Nat × Arg) → Option (List FV × List Edit)
 | [(0,⟨.ref s none,some (r,.cont .agg cs)⟩)] => some (cs,[⟨s,.dead,.all⟩])
 | _ => none
def cBuildSlice (P : Program) (t : TypeId) (len : Nat) (parts : List (Nat × Arg)) : Res :=
 match tElem P t with
 | none => no
 | some e => match P.underlying e,tShape P e with
   | some (.slice _),some none => (match pairRow parts with
     | some (cs,es) => (match Nat.beq 2 len && zeroOk P e 1 with
       | true => ok (es,.home (.cont .nest cs))
       | false => no)
     | none => match nestParts 0 parts with
       | some (cs,es) => match Nat.beq cs.length len && Nat.ble len 16777216 && onceEach es && zeroOk P e 1 with
         | true => ok (es,.home (.cont .nest cs))
         | false => no
       | none => no)
   | some _,some sh => match rowParts sh 0 parts with
     | some xs => match Nat.beq xs.length len && Nat.ble (len * shN sh) 16777216 && Nat.blt 0 (shN sh) && zeroOk P e (shN sh) with
       | true => quiet (.home (.flat (.own sh xs [])))
       | false => no
     | none => match sh,onePart parts with
       | some k,some (cs,es) => match Nat.beq 1 len && Nat.beq cs.length k && Nat.ble k 16777216 && Nat.blt 0 k && cs.all FV.whole && onceEach es && zeroOk P e k with
         | true => ok (es,.home (.flat (.own sh [.agg (cs.map FV.frz)] [])))
         | false => no
       | _,_ => no
   | _,_ => no
def cBox (P : Program) (t : TypeId) (x : Arg) : Res :=
 withA (tShape P t) fun sh => withA (x.asCells sh) fun (cs,es) => ok (es,.home (.cont .box cs))
def bare (P : Program) (t : TypeId) : Bool:=match P.info? t with
 | some i => i.str == "api.Entry"
 | none => false
def cAlloc (P : Program) (t : TypeId) : Res :=
 withA (tZero P t) fun cs => quiet (.home (.cont .box (match bare P t with
  | true => cs
  | false => cs.map FV.room)))
def cMakeSlice (P : Program) (t : TypeId) (n m : Arg) : Res :=
 withA (tElem P t) fun e => withA n.int fun n => withA m.int fun m => withA (tShape P e) fun sh => withA (tZero P e) fun fs =>
  need (decide (0 ≤ n)) <| need (n == m) <| need (Nat.ble (tBytes P e * n.toNat) 140737488355328) <| need (Nat.ble n.toNat 9223372036854775807) <|
  match sh,fs with
  | none,[f] => quiet (.home (.flat (.own none (List.replicate n.toNat f.frz) [])))
  | none,_ => no
  | some k,fs => match Nat.beq fs.length k with
    | true => quiet (.home (.flat (.own sh (List.replicate n.toNat (.agg (fs.map FV.frz))) [])))
    | false => no
def pvsOf : List Arg → Option (List PV)
 | [] => some []
 | a :: r => match a.pv,pvsOf r with
   | some v,some vs => some (v :: vs)
   | _,_ => none
def freezes : List Arg → Option (List Edit)
 | [] => some []
 | a :: r => match a.freeze,freezes r with
   | some e,some es => some (e ++ es)
   | _,_ => none
def cMakeFunc (f : Fn) (fs cs : List Arg) : Res :=
 match f,pvsOf fs,pvsOf cs,freezes fs,freezes cs with
 | .func _,some a,some b,some e,some g => match onceEach (e ++ g) with
   | true => ok (e ++ g,.val (.fn f a b))
   | false => no
 | _,_,_,_,_ => no
def cExtract (i : Nat) (x : Arg) : Res :=
 match x.sv,x.rt with
 | .ref s none,some (_,.cont .tup cs) => match cs[i]? with
   | some (.val v) => quietP v
   | some (.nil sh) => quiet (.home (.flat (.nil sh)))
   | some (.own _ _ _) => quiet (.ref s (some i))
   | _ => no
 | .ref s none,some (_,.tn cs ps) => match i with
   | 0 => ok ([⟨s,.home (.cont .tup (.gone :: ps.map .val)),.cells 0 (cs.length + ps.length + 1)⟩],.home (.cont .nest cs))
   | j + 1 => match ps[j]? with
     | some v => quietP v
     | none => no
 | _,_ => no
def appSrc (P : Program) (e : TypeId) (b : Arg) : Option (Option Nat × List PV × List Edit) :=
 match b.sv with
 | .home (.flat (.val (.str s))) => match P.underlying e with
   | some (.int .u8) => some (none,s.map pvByte,[])
   | _ => none
 | _ => match b.ov with
   | some (.cont .nest cs) => match b.take with
     | some es => some (none,cs.map FV.frz,es)
     | none => none
   | _ => match b.row with
     | some (sh,xs) => some (sh,xs,[])
     | none => none
def room (P : Program) (e : TypeId) (n : Nat) : List Bool:=[Nat.ble (n * tBytes P e) 140737488355328,Nat.ble n 9223372036854775807]
def cAppend (P : Program) (t : TypeId) (a b : Arg) : Res :=
 match tElem P t with
 | none => no
 | some e => match tShape P e,a.ov,a.take with
   | some sh,some (.flat (.own sh0 xs _)),some es =>
     match appSrc P e b with
     | some (sh1,ys,es') => match onceEach (es ++ es') && Nat.blt 0 (shN sh) && zeroOk P e (shN sh) && shEq sh0 sh && shEq sh1 sh with
       | true => (room P e (xs.length + ys.length),some (es ++ es',.home (.flat (.own sh (xs ++ ys) []))))
       | false => no
     | none => no
   | some none,some (.cont .nest cs),some es =>
     match zeroOk P e 1 with
     | false => no
     | true => match b.ov,b.take with
       | some (.cont .nest ds),some es' => match onceEach (es ++ es') with
         | true => (room P e (cs.length + ds.length),some (es ++ es',.home (.cont .nest (cs ++ ds))))
         | false => no
       | some (.flat (.val (.sl sh1 ys))),_ => match shEq sh1 none with
         | true => (room P e (cs.length + ys.length),some (es,.home (.cont .nest (cs ++ ys.map .val))))
         | false => no
       | _,_ => no
   | _,_,_ => no
def copySrc (P : Program) (e : TypeId) (b : Arg) : Option (List PV) :=
 match b.sv with
 | .home (.flat (.val (.str s))) => match P.underlying e with
   | some (.int .u8) => some (s.map pvByte)
   | _ => none
 | _ => match b.ov with
   | some (.cont .nest _) => none
   | _ => match b.row with
     | some (none,xs) => some xs
     | _ => none
def cCopy (P : Program) (t : TypeId) (a b : Arg) : Res :=
 match tElem P t with
 | none => no
 | some e => match tShape P e,a.sv,a.rt,copySrc P e b with
   | some none,.view s c l h,some (_,o),some ys => match o.at c with
     | some (.flat (.own none xs _)) => match setRow c o (.own none (xs.take l ++ ys.take (Nat.min ys.length (h - l)) ++ xs.drop (l + Nat.min ys.length (h - l))) []) with
       | some o' => ([Nat.blt 0 xs.length],some ([⟨s,.home o',.no⟩],.val (.int .i64 ((Nat.min ys.length (h - l) : Nat) : Int))))
       | none => no
     | _ => no
   | _,_,_,_ => no
inductive RK where
 | v | o | os | n | e
 | a (l : List Bool)
 | b (l : List Bool)
 deriving DecidableEq,Inhabited
inductive Md where
 | ro | io (k : RK) | tk
 deriving DecidableEq,Inhabited
abbrev Rec:=FuncId → List OV → Option (List OV × List OV)
structure Ctx where
 P : Program
 mode : FuncId → List Md
 res : FuncId → List RK
 live : FuncId → List (List Nat)
 prim : FuncId → Option (List OV → Option (List OV × List OV))
 frz : FuncId → List Bool:=fun _ => []
def argOV (m : Md) (a : Arg) : Option OV :=
 match m with
 | .ro => match a.pv with
   | some v => some (.val v)
   | none => none
 | _ => match a.ov with
   | some (.flat (.own sh xs sp)) => some (.flat (.own sh xs sp))
   | some (.cont k cs) => some (.cont k cs)
   | _ => none
def argOVs : List Md → List Arg → Option (List OV)
 | _,[] => some []
 | ms,a :: r => match argOV (ms.headD .ro) a,argOVs ms.tail r with
   | some o,some os => some (o :: os)
   | _,_ => none
def fvPlain (P : Program) (t : TypeId) : FV → Bool
 | .val _ => tPlain P 8 t
 | .nil _ => true
 | .own _ _ _ => match tElem P t with
   | some e => tPlain P 8 e
   | none => false
 | .gone => true
def fieldsPlain (P : Program) : List TypeId → List FV → Bool
 | [],[] => true
 | t :: r,c :: cs => fvPlain P t c && fieldsPlain P r cs
 | _,_ => false
def nestElem (P : Program) (t : TypeId) : Option TypeId:=match tElem P t with
 | some e => match tElem P e with
   | some e2 => match tPlain P 8 e2 with
     | true => some e
     | false => none
   | none => none
 | none => none
def ovPlain (P : Program) (t : TypeId) : OV → Bool
 | .flat f => fvPlain P t f
 | .cont .agg cs => fieldsPlain P (cellTys P 8 t) cs
 | .cont .nest _ => (nestElem P t).isSome
 | _ => false
def ovsPlain (P : Program) : List TypeId → List OV → Bool
 | _,[] => true
 | t :: ts,o :: os => ovPlain P t o && ovsPlain P ts os
 | [],_ :: _ => false
def outsPlain (P : Program) : List TypeId → List Md → List OV → Bool
 | _,[],_ => true
 | ts,.io _ :: ms,os => ovPlain P (ts.headD 0) (os.headD (.flat .gone)) && outsPlain P ts.tail ms os.tail
 | ts,_ :: ms,os => outsPlain P ts.tail ms os.tail
def putOk : Option Nat → OV → Bool
 | some _,.flat (.val v) => isCell v
 | some _,.flat .gone => false
 | _,_ => true
def argEdit (plain : Bool) (m : Md) (a : Arg) (out : OV) : Option (List Edit):=match m with
 | .ro => match plain with
   | true => some []
   | false => a.freeze
 | .tk => a.take
 | .io _ => match a.take,a.sv,a.rt with
   | some _,.ref s c,some (_,o) => match putOk c out with
     | true => one (setAt s o c out)
     | false => none
   | _,_,_ => none
def argEdits (plain : Bool) : List Md → List Arg → List OV → Option (List Edit)
 | _,[],_ => some []
 | ms,a :: r,outs => match argEdit plain (ms.headD .ro) a (outs.headD (.flat .gone)),argEdits plain ms.tail r outs.tail with
   | some e,some es => some (e ++ es)
   | _,_ => none
def Md.isRo : Md → Bool
 | .ro => true
 | _ => false
def Arg.rootSlot (a : Arg) : Option Nat:=match a.rt with
 | some (s,_) => some s
 | none => none
def apartFrom (m : Md) (s : Option Nat) : List Md → List Arg → Bool
 | _,[] => true
 | ms,b :: r => (match s,b.rootSlot with
    | some x,some y => !(Nat.beq x y) || (m.isRo && (ms.headD .ro).isRo)
    | _,_ => true) && apartFrom m s ms.tail r
def argsApart : List Md → List Arg → Bool
 | _,[] => true
 | ms,a :: r => argsApart ms.tail r && apartFrom (ms.headD .ro) a.rootSlot ms.tail r
def FV.xs : FV → List PV
 | .own _ xs _ => xs
 | _ => []
def FV.sp : FV → List PV
 | .own _ _ sp => sp
 | _ => []
def FV.pv : FV → PV
 | .val v => v
 | _ => .undef
def OV.fv : OV → FV
 | .flat f => f
 | _ => .gone
def OV.cells : OV → List FV
 | .cont _ cs => cs
 | _ => []
def elemShape (P : Program) (t : TypeId) : Option Nat:=match tElem P t with
 | some e => match tShape P e with
   | some sh => sh
   | none => none
 | none => none
def mkF (P : Program) (t : TypeId) (own : Bool) (f : FV) : FV:=match own with
 | true => .own (elemShape P t) f.xs []
 | false => .val (etaT P t f.pv)
def okRow (P : Program) (t : TypeId) (xs sp : List PV) : Bool:=match tElem P t with
 | some e => match tPlain P 8 e with
   | true => xs.all (hasT P e) && sp.all (hasT P e)
   | false => true
 | none => false
def okF (P : Program) (t : TypeId) (own : Bool) (f : FV) : Bool:=match own,f with
 | true,.own sh xs _ => shEq (elemShape P t) sh && okRow P t xs []
 | false,.val v => hasT P t v
 | _,_ => false
def mkFs (P : Program) : List TypeId → List Bool → List FV → List FV
 | t :: ts,b :: bs,fs => mkF P t b (fs.headD .gone) :: mkFs P ts bs fs.tail
 | _,_,_ => []
def okFs (P : Program) : List TypeId → List Bool → List FV → Bool
 | t :: ts,b :: bs,f :: fs => okF P t b f && okFs P ts bs fs
 | [],[],[] => true
 | _,_,_ => false
def boxTys (P : Program) (t : TypeId) : List TypeId:=match P.underlying t with
 | some (.pointer e) => cellTys P 8 e
 | _ => []
def mkO (P : Program) (t : TypeId) (k : RK) (o : OV) : OV:=match k with
 | .v => .flat (mkF P t false o.fv)
 | .o => .flat (mkF P t true o.fv)
 | .os => .flat (.own (elemShape P t) o.fv.xs o.fv.sp)
 | .n => .cont .nest o.cells
 | .a l => .cont .agg (mkFs P (cellTys P 8 t) l o.cells)
 | .b l => .cont .box (mkFs P (boxTys P t) l o.cells)
 | .e => .cont .ents o.cells
def nestCell (P : Program) (e : TypeId) : FV → Bool
 | .own _ xs sp => okRow P e xs sp
 | .nil _ => true
 | _ => false
def nestOk (P : Program) (t : TypeId) (cs : List FV) : Bool:=match nestElem P t with
 | some e => cs.all (nestCell P e)
 | none => true
def okO (P : Program) (t : TypeId) (k : RK) (o : OV) : Bool:=match k,o with
 | .v,.flat f => okF P t false f
 | .o,.flat f => okF P t true f
 | .os,.flat (.own sh xs sp) => shEq (elemShape P t) sh && okRow P t xs sp
 | .n,.cont .nest cs => nestOk P t cs
 | .a l,.cont .agg cs => okFs P (cellTys P 8 t) l cs
 | .b l,.cont .box cs => okFs P (boxTys P t) l cs
 | .e,.cont .ents _ => true
 | _,_ => false
def mkOs (P : Program) : List TypeId → List RK → List OV → List OV
 | [],_,_ => []
 | t :: ts,ks,os => mkO P t (ks.headD .v) (os.headD (.flat .gone)) :: mkOs P ts ks.tail os.tail
def okOs (P : Program) : List TypeId → List RK → List OV → Bool
 | [],_,[] => true
 | t :: ts,ks,o :: os => okO P t (ks.headD .v) o && okOs P ts ks.tail os
 | _,_,_ => false
def mkOuts (P : Program) : List TypeId → List Md → List OV → List OV
 | _,[],_ => []
 | ts,.io k :: ms,os => mkO P (ts.headD 0) k (os.headD (.flat .gone)) :: mkOuts P ts.tail ms os.tail
 | ts,_ :: ms,os => .flat .gone :: mkOuts P ts.tail ms os.tail
def okOuts (P : Program) : List TypeId → List Md → List OV → Bool
 | _,[],_ => true
 | ts,.io k :: ms,os => okO P (ts.headD 0) k (os.headD (.flat .gone)) && okOuts P ts.tail ms os.tail
 | ts,_ :: ms,os => okOuts P ts.tail ms os.tail
def flats : List OV → Option (List FV)
 | [] => some []
 | .flat f :: r => match flats r with
   | some fs => some (f :: fs)
   | none => none
 | _ :: _ => none
def vals : List OV → Option (List PV)
 | [] => some []
 | .flat (.val v) :: r => match vals r with
   | some vs => some (v :: vs)
   | none => none
 | _ :: _ => none
def resultSV : List OV → Option SV
 | [] => some (.val .undef)
 | [o] => some (.home o)
 | .cont .nest cs :: rs => match vals rs with
   | some vs => some (.home (.tn cs vs))
   | none => none
 | rs => match flats rs with
   | some fs => some (.home (.cont .tup fs))
   | none => none
def callEnd (C : Ctx) (f : FuncId) (as : List Arg) (rs outs : List OV) : Res :=
 match C.P.funcs[f]? with
 | none => no
 | some fn =>
   let ts:=fn.resultTypes.toList
   let rs':=mkOs C.P ts (C.res f) rs
   need (okOs C.P ts (C.res f) rs) <| need (okOuts C.P fn.params.toList (C.mode f) outs) <|
    match argEdits (ovsPlain C.P ts rs' && outsPlain C.P fn.params.toList (C.mode f) (mkOuts C.P fn.params.toList (C.mode f) outs)) (C.mode f) as (mkOuts C.P fn.params.toList (C.mode f) outs),resultSV rs' with
    | some es,some v => match onceEach es with
      | true => ok (es,v)
      | false => no
    | _,_ => no
def fetchAll (P : Program) (st : Slots) : List TypeId → List Operand → Option (List Arg)
 | _,[] => some []
 | ts,x :: r => match fetch P st (ts.headD 0) x,fetchAll P st ts.tail r with
   | some a,some as => some (a :: as)
   | _,_ => none
def fetchParts (P : Program) (st : Slots) (ty : Nat → TypeId) : List (Nat × Operand) → Option (List (Nat × Arg))
 | [] => some []
 | (i,x) :: r => match fetch P st (ty i) x,fetchParts P st ty r with
   | some a,some as => some ((i,a) :: as)
   | _,_ => none
def partType (P : Program) (t : TypeId) (i : Nat) : TypeId :=
 match P.underlying t with
 | some (.struct fs) => match fs[i]? with
   | some f => f.type
   | none => 0
 | some (.array _ e) => e
 | some (.slice e) => e
 | _ => 0
def optInt (P : Program) (st : Slots) : Option Operand → Option (Option Int)
 | none => some none
 | some x => match fetch P st 0 x with
   | some a => match a.int with
     | some n => some (some n)
     | none => none
   | none => none
def mnI (a b : Int) : Int:=if b < a then b else a
def mxI (a b : Int) : Int:=if a < b then b else a
def cMin (a b : Arg) : Res :=
 match a.sv,b.sv with
 | .home (.flat (.val (.int k x))),.home (.flat (.val (.int _ y))) => quietP (.int k (mnI x y))
 | _,_ => no
def cMax (a b : Arg) : Res :=
 match a.sv,b.sv with
 | .home (.flat (.val (.int k x))),.home (.flat (.val (.int _ y))) => quietP (.int k (mxI x y))
 | _,_ => no
def compute (P : Program) (o : Oper) (st : Slots) : Res :=
 match o.op with
 | .move x => withA (fetch P st o.type x) cMove
 | .assign x => withA (fetch P st o.type x) cAssign
 | .pick c a b => withA (fetch P st 0 c) fun c => match c.bool with
    | some true => withA (fetch P st o.type a) cMove
    | some false => withA (fetch P st o.type b) cMove
    | none => no
 | .alloc t => cAlloc P t
 | .box t x => withA (fetch P st t x) (cBox P t)
 | .build t ps => withA (fetchParts P st (partType P t) ps.toList) (cBuild P t)
 | .buildSlice t n ps => withA (fetchParts P st (partType P t) ps.toList) (cBuildSlice P t n)
 | .load t a => withA (fetch P st 0 a) (cLoad P t)
 | .store t a v => withA (fetch P st 0 a) fun a => withA (fetch P st t v) fun v => cStore P t a v
 | .nilCheck x => withA (fetch P st 0 x) (cNilCheck P o.type)
 | .binOp op xt x y yt => withA (fetch P st xt x) fun a => withA (fetch P st yt y) fun b => cBin P op xt a b
 | .unOp op t x => withA (fetch P st t x) (cUn op)
 | .convert s d x => withA (fetch P st s x) (cConvert P s d)
 | .makeFunc f fs cs => withA (fetchAll P st [] fs.toList) fun a => withA (fetchAll P st [] cs.toList) fun b => cMakeFunc f a b
 | .makeSlice t n m => withA (fetch P st 0 n) fun a => withA (fetch P st 0 m) fun b => cMakeSlice P t a b
 | .slice t x lo hi mx => withA (fetch P st t x) fun a => withA (optInt P st lo) fun l => withA (optInt P st hi) fun h => withA (optInt P st mx) fun m => cSlice P t a l h m
 | .fieldAddr t x f => withA (fetch P st 0 x) (cFieldAddr P t f)
 | .field t x f => withA (fetch P st t x) (cField P t f)
 | .indexAddr t x i => withA (fetch P st t x) fun a => withA (fetch P st 0 i) fun b => cIndexAddr P t (Region.isConst i) a b
 | .index t x i => withA (fetch P st t x) fun a => withA (fetch P st 0 i) fun b => cIndex P t a b
 | .extract x i => withA (fetch P st 0 x) (cExtract i)
 | .call c => match c.callee with
   | .builtin .len => match c.argTypes.toList,c.args.toList with
     | [t],[x] => withA (fetch P st t x) (cLen P t)
     | _,_ => no
   | .builtin .append => match c.argTypes.toList,c.args.toList with
     | [t,u],[x,y] => match Nat.beq t u with
       | true => withA (fetch P st t x) fun a => withA (fetch P st u y) fun b => cAppend P t a b
       | false => match P.underlying u with
         | some .string => withA (fetch P st t x) fun a => withA (fetch P st u y) fun b => cAppend P t a b
         | _ => no
     | _,_ => no
   | .builtin .copy => match c.argTypes.toList,c.args.toList with
     | [t,u],[x,y] => match Nat.beq t u with
       | true => withA (fetch P st t x) fun a => withA (fetch P st u y) fun b => cCopy P t a b
       | false => match P.underlying u with
         | some .string => withA (fetch P st t x) fun a => withA (fetch P st u y) fun b => cCopy P t a b
         | _ => no
     | _,_ => no
   | .builtin .min => match c.args.toList with
     | [x,y] => withA (fetch P st o.type x) fun a => withA (fetch P st o.type y) fun b => cMin a b
     | _ => no
   | .builtin .max => match c.args.toList with
     | [x,y] => withA (fetch P st o.type x) fun a => withA (fetch P st o.type y) fun b => cMax a b
     | _ => no
   | _ => no
 | _ => no
def callee (C : Ctx) (c : Call) (st : Slots) : Option (FuncId × List Arg) :=
 match c.callee with
 | .value f => match fetch C.P st 0 f with
   | some ⟨.home (.flat (.val (.fn (.func g) first cap))),_⟩ =>
     match (C.P.funcs[g]?).bind (·.body),fetchAll C.P st c.argTypes.toList c.args.toList with
     | some _,some as => some (g,first.map (fun v => ⟨.val v,none⟩) ++ as ++ cap.map (fun v => ⟨.val v,none⟩))
     | _,_ => none
   | _ => none
 | _ => none
def done (o : Oper) (st : Slots) (r : List Edit × SV) : Slots:=match o.dst with
 | some d => (edits r.1 st).put d r.2
 | none => edits r.1 st
def skipped (o : Oper) (st : Slots) : Slots:=match o.dst with
 | some d => st.put d (.val .undef)
 | none => st
def Slots.fix (st : Slots) (g : Nat) (b : Bool) : Slots:=st.ins g (.val (.bool b))
def fixC (st : Slots) (c : Operand) (b : Bool) : Slots:=match c with
 | .tmp t => st.fix t b
 | _ => st
def needB {α : Type} (c : Bool) (t : Option α) : Option α := match c with
 | true => t
 | false => none
def needAll {α : Type} : List Bool → Option α → Option α
 | [],t => t
 | c :: cs,t => needB c (needAll cs t)
def ifB {α : Type} (c : Bool) (t e : Option α) : Option α := match c with
 | true => t
 | false => e
def callB {α β : Type} (r : Option α) (k : α → Option β) : Option β := match r with
 | some a => k a
 | none => none
def endQ {α : Type} (o : Oper) (st : Slots) (q : Res) (k : Slots → List Edit → SV → Option α) : Option α := needAll q.1 (match q.2 with
 | some r => k (done o st r) r.1 r.2
 | none => none)
def SV.rootL (v : SV) : List Nat:=match v.root with
 | some r => [r]
 | none => []
def readsOf (st : Slots) : List Operand → List Nat
 | [] => []
 | .tmp s :: r => s :: ((st.get s).rootL ++ readsOf st r)
 | _ :: r => readsOf st r
def slotOf (ops : Array Oper) (j : Nat) : List Nat:=match (ops[j]?).bind (·.dst) with
 | some g => [g]
 | none => []
def guardReads (ops : Array Oper) (o : Oper) : List Nat:=match o.guard with
 | some (j,_) => slotOf ops j
 | none => []
structure Foot where
 rd : List Nat
 wr : List Nat
 live : Bool
def liveAll (st : Slots) (rd : List Nat) : List Nat → Bool
 | [] => true
 | s :: l => (match st.get s with
   | .dead => false
   | v => v.rootL.all fun r => memN r rd) && liveAll st rd l
def footRd (ops : Array Oper) (o : Oper) (st : Slots) (es : List Edit) (v : SV) : List Nat:=guardReads ops o ++ (readsOf st o.op.operands.toList ++ (es.flatMap (·.v.rootL) ++ v.rootL))
def footOf (ops : Array Oper) (o : Oper) (st : Slots) (es : List Edit) (v : SV) : Foot :=
 ⟨footRd ops o st es v,o.dst.toList ++ es.map (·.s),liveAll st (footRd ops o st es v) (footRd ops o st es v)⟩
def skipFoot (ops : Array Oper) (o : Oper) : Foot:=⟨guardReads ops o,o.dst.toList,true⟩
def meets (l m : List Nat) : Bool:=l.any fun x => memN x m
def Foot.apart (a b : Foot) : Bool := !(meets a.wr b.rd || meets a.wr b.wr || meets a.rd b.wr)
def maskOf (acc : List Nat) (o : Oper) : Nat :=
 o.after.toList.foldl (fun s e => match Region.binds .any e with
  | true => Nat.lor s (Nat.lor (Nat.shiftLeft 1 e.on) (acc.getD e.on 0))
  | false => s) 0
def masks : List Oper → List Nat → List Nat
 | [],acc => acc
 | o :: r,acc => masks r (acc ++ [maskOf acc o])
def edgesBack : List Oper → Nat → Bool
 | [],_ => true
 | o :: r,i => (o.after.toList.all fun e => !(Region.binds .any e) || Nat.blt e.on i) && edgesBack r (i + 1)
def pairsOk (ms : List Nat) (j : Nat) (f : Foot) : Nat → List Foot → Bool
 | _,[] => true
 | i,g :: r => (Nat.testBit (ms.getD j 0) i || g.apart f) && pairsOk ms j f (i + 1) r
def allPairs (ms : List Nat) : Nat → List Foot → List Foot → Bool
 | _,_,[] => true
 | j,done,f :: r => pairsOk ms j f 0 done && allPairs ms (j + 1) (done ++ [f]) r
def orderFree (ops : List Oper) (fs : List Foot) : Bool:=edgesBack ops 0 && fs.all (·.live) && allPairs (masks ops []) 0 [] fs
section
variable {α : Type} (C : Ctx) (rec : Rec)
def perform (o : Oper) (st : Slots) (k : Slots → List Edit → SV → Option α) : Option α :=
 match o.op with
 | .call ⟨.value f,args,tys⟩ => match callee C ⟨.value f,args,tys⟩ st with
   | none => none
   | some (g,as) => match argsApart (C.mode g) as,argOVs (C.mode g) as with
     | true,some os => callB (rec g os) fun r => endQ o st (callEnd C g as r.1 r.2) k
     | _,_ => none
 | _ => endQ o st (compute C.P o st) k
def stepK (ops : Array Oper) (o : Oper) (st : Slots) (k : Slots → Foot → Option α) : Option α :=
 match o.guard with
 | none => perform C rec o st fun st' es v => k st' (footOf ops o st es v)
 | some (j,want) => match (ops[j]?).bind (·.dst) with
   | none => none
   | some g => match st.get g with
     | .home (.flat (.val (.bool b))) => match want with
       | true => ifB b (perform C rec o (st.fix g true) fun st' es v => k st' (footOf ops o (st.fix g true) es v)) (k (skipped o (st.fix g false)) (skipFoot ops o))
       | false => ifB b (k (skipped o (st.fix g true)) (skipFoot ops o)) (perform C rec o (st.fix g false) fun st' es v => k st' (footOf ops o (st.fix g false) es v))
     | .home (.flat (.val .undef)) => k (skipped o st) (skipFoot ops o)
     | _ => none
def stepsK (ops : Array Oper) : List Oper → Slots → List Foot → (Slots → List Foot → Option α) → Option α
 | [],st,fs,k => k st fs
 | o :: r,st,fs,k => stepK C rec ops o st fun st' f => stepsK ops r st' (fs ++ [f]) k
end
inductive Ex where
 | normal | exit (id : Nat) | ret
def loopK {α : Type} (body : Slots → (Ex → Slots → Option α) → Option α) (l : Slots → Slots) (k : Ex → Slots → Option α) : Nat → Slots → Option α
 | 0,_ => none
 | n + 1,st => body st fun e st' => match e with
   | .normal => loopK body l k n (l st')
   | e => k e st'
def firstRegion : Code → Option Nat
 | .region id _ _ => some id
 | .seq a b => match firstRegion a with
   | some i => some i
   | none => firstRegion b
 | .block _ c => firstRegion c
 | .scope c => firstRegion c
 | .loop c => firstRegion c
 | _ => none
def keepAt (l : List (List Nat)) (id : Option Nat) (st : Slots) : Slots :=
 match id with
 | some i => match l[i]? with
   | some ks => st.keep ks
   | none => st
 | none => st
section
variable {α : Type} (C : Ctx) (rec : Rec) (n : Nat) (lv : List (List Nat))
def evalK : Code → Slots → (Ex → Slots → Option α) → Option α
 | .skip,st,k => k .normal st
 | .label _,st,k => k .normal st
 | .region id ops draw,st,k => stepsK C rec ops ops.toList (keepAt lv (some id) st) [] fun st' fs => match draw with
   | true => needB (C.P.follows .mixedOrders) (needB (orderFree ops.toList fs) (k .normal st'))
   | false => k .normal st'
 | .seq a b,st,k => evalK a st fun e st' => match e with
   | .normal => evalK b st' k
   | e => k e st'
 | .cond c a b,st,k => match fetch C.P st 0 c with
   | some x => match x.bool with
     | some v => ifB v (evalK a (fixC st c true) k) (evalK b (fixC st c false) k)
     | none => none
   | none => none
 | .block id c,st,k => evalK c st fun e st' => match e with
   | .exit j => match Nat.beq j id with
     | true => k .normal st'
     | false => k (.exit j) st'
   | e => k e st'
 | .loop c,st,k => loopK (evalK c) (keepAt lv (firstRegion c)) k n (keepAt lv (firstRegion c) st)
 | .scope c,st,k => evalK c st k
 | .exit id,st,k => k (.exit id) st
 | .ret,st,k => k .ret st
 | _,_,_ => none
end
def resultOf (P : Program) (st : Slots) : ResultVar → Option (OV × Slots)
 | .tmp t => match fetch P st 0 (.tmp t) with
   | none => none
   | some a => match a.sv with
     | .home o => some (o,st)
     | .ref _ _ => match a.ov,a.take with
       | some o,some es => some (o,edits es st)
       | _,_ => none
     | .view s none 0 h => match a.rt with
       | some (_,.flat (.own sh xs _)) => some (.flat (.own sh (xs.take h) []),edits [⟨s,.dead,.all⟩] st)
       | _ => none
     | _ => match a.pv,a.freeze with
       | some v,some es => some (.val v,edits es st)
       | _,_ => none
 | .cell a t => match fetch P st 0 (.tmp a),tShape P t with
   | some x,some sh => match x.sv,x.rt with
     | .ref s none,some (_,.cont .box cs) => match sh with
       | none => match cs with
         | [f] => some (.flat f,edits [⟨s,.dead,.all⟩] st)
         | _ => none
       | some n => match Nat.beq cs.length n with
         | true => some (OV.ofAgg cs,edits [⟨s,.dead,.all⟩] st)
         | false => none
     | _,_ => none
   | _,_ => none
def resultsOf (P : Program) : List ResultVar → Slots → Option (List OV × Slots)
 | [],st => some ([],st)
 | r :: rs,st => match resultOf P st r with
   | some (o,st') => match resultsOf P rs st' with
     | some (os,st'') => some (o :: os,st'')
     | none => none
   | none => none
def outsOf (st : Slots) : Nat → List Md → List OV
 | _,[] => []
 | i,.io _ :: r => (match st.get i with | .home o => o | _ => .flat .gone) :: outsOf st (i + 1) r
 | i,_ :: r => .flat .gone :: outsOf st (i + 1) r
def startSlots : Nat → List OV → Slots
 | _,[] => []
 | i,o :: r => (i,.home o) :: startSlots (i + 1) r
inductive Behind where
 | seq (b : Code)
 | block (id : Nat)
 | loop (c : Code) (m : Nat)
def behind {α : Type} (C : Ctx) (rec : Rec) (n : Nat) (lv : List (List Nat)) (k : Ex → Slots → Option α) : List Behind → Ex → Slots → Option α
 | [] => k
 | .seq b :: r => fun e st' => match e with
   | .normal => evalK C rec n lv b st' (behind C rec n lv k r)
   | e => behind C rec n lv k r e st'
 | .block id :: r => fun e st' => match e with
   | .exit j => match Nat.beq j id with
     | true => behind C rec n lv k r .normal st'
     | false => behind C rec n lv k r (.exit j) st'
   | e => behind C rec n lv k r e st'
 | .loop c m :: r => fun e st' => match e with
   | .normal => loopK (evalK C rec n lv c) (keepAt lv (firstRegion c)) (behind C rec n lv k r) m (keepAt lv (firstRegion c) st')
   | e => behind C rec n lv k r e st'
def pieceAt : Code → List Nat → List Nat → List Behind → Code × List Behind
 | .seq a b,0 :: p,ms,bs => pieceAt a p ms (.seq b :: bs)
 | .seq _ b,_ :: p,ms,bs => pieceAt b p ms bs
 | .cond _ a _,0 :: p,ms,bs => pieceAt a p ms bs
 | .cond _ _ b,_ :: p,ms,bs => pieceAt b p ms bs
 | .block id c,_ :: p,ms,bs => pieceAt c p ms (.block id :: bs)
 | .loop c,_ :: p,m :: ms,bs => pieceAt c p ms (.loop c m :: bs)
 | .scope c,_ :: p,ms,bs => pieceAt c p ms bs
 | c,_,_,bs => (c,bs)
def finish (C : Ctx) (fn : Func) (f : FuncId) (e : Ex) (st : Slots) : Option (List OV × List OV):=match e with
 | .exit _ => none
 | _ => match resultsOf C.P fn.results.toList st with
   | some (rs,st') => some (rs,outsOf st' 0 (C.mode f))
   | none => none
def loopAt (C : Ctx) (rec : Rec) (n : Nat) (f : FuncId) (p ms : List Nat) (m : Nat) (st : Slots) : Option (List OV × List OV) :=
 match C.P.funcs[f]? with
 | none => none
 | some fn => match fn.body with
   | none => none
   | some c => match pieceAt c p ms [] with
     | (.loop c,bs) => loopK (evalK C rec n (C.live f) c) (keepAt (C.live f) (firstRegion c)) (behind C rec n (C.live f) (finish C fn f) bs) m st
     | _ => none
def dstsOk (n : Nat) (io : List Nat) : Code → Bool
 | .region _ ops _ => ops.toList.all fun o => match o.dst with
   | some d => Nat.blt d n && !(memN d io)
   | none => true
 | .seq a b => dstsOk n io a && dstsOk n io b
 | .cond _ a b => dstsOk n io a && dstsOk n io b
 | .block _ c => dstsOk n io c
 | .loop c => dstsOk n io c
 | .scope c => dstsOk n io c
 | _ => true
def ioSlots : Nat → List Md → List Nat
 | _,[] => []
 | n,.io _ :: r => n :: ioSlots (n + 1) r
 | n,_ :: r => ioSlots (n + 1) r
def callBody (C : Ctx) (rec : Rec) (n : Nat) (f : FuncId) (args : List OV) : Option (List OV × List OV) :=
 match C.P.funcs[f]? with
 | none => none
 | some fn => match fn.body with
   | none => none
   | some c => match dstsOk fn.ntmps (ioSlots 0 (C.mode f)) c && Nat.ble args.length fn.ntmps && Nat.ble (C.mode f).length args.length with
     | true => evalK C rec n (C.live f) c (startSlots 0 args) (finish C fn f)
     | false => none
def frzR : List Bool → List OV → List OV
 | true :: bs,o :: os => (match o.pv with
   | some v => .flat (.val v)
   | none => o) :: frzR bs os
 | false :: bs,o :: os => o :: frzR bs os
 | [],os => os
 | _ :: _,[] => []
def frzM (bs : List Bool) : Option (List OV × List OV) → Option (List OV × List OV)
 | some r => some (frzR bs r.1,r.2)
 | none => none
def pcall (C : Ctx) : Nat → Rec
 | 0,_,_ => none
 | n + 1,f,args => match C.prim f with
   | some p => p args
   | none => frzM (C.frz f) (callBody C (pcall C n) n f args)
end Go.Ev

namespace Go.Ev
theorem nbeq {a b : Nat} (h : ¬ a = b) : Nat.beq a b = false:=by
 cases hb : Nat.beq a b with
 | false => rfl
 | true => exact absurd (Nat.eq_of_beq_eq_true hb) h
theorem bleT {a b : Nat} (h : a ≤ b) : Nat.ble a b = true:=by rw [Nat.ble_eq];exact h
theorem bltT {a b : Nat} (h : a < b) : Nat.blt a b = true:=by rw [Nat.blt_eq];exact h
theorem get_ins (st : Slots) (t : Nat) (v : SV) (u : Nat) : (st.ins t v).get u = if u = t then v else st.get u:=by
 induction st with
 | nil =>
   simp only [Slots.ins,Slots.get]
   by_cases h : u = t
   · subst h;simp
   · have : Nat.beq u t = false:=nbeq h
     simp [this,h]
 | cons e r ih =>
   obtain ⟨k,x⟩:=e
   simp only [Slots.ins]
   by_cases h1 : t = k
   · subst h1
     simp only [Nat.beq_refl,Slots.get]
     by_cases h : u = t
     · subst h;simp
     · have : Nat.beq u t = false:=nbeq h
       simp [this,h]
   · have h1' : Nat.beq t k = false:=nbeq h1
     simp only [h1']
     cases hb : Nat.blt t k with
     | true =>
       simp only [Slots.get]
       by_cases h : u = t
       · subst h;simp
       · have : Nat.beq u t = false:=nbeq h
         simp [this,h]
     | false =>
       simp only [Slots.get]
       by_cases hk : u = k
       · subst hk
         have hne : u ≠ t:=fun e => h1 e.symm
         simp [hne]
       · have : Nat.beq u k = false:=nbeq hk
         simp [this,ih]
theorem get_mapv (f : SV → SV) (hf : f .dead = .dead) (st : Slots) (u : Nat) : (st.mapv f).get u = f (st.get u):=by
 induction st with
 | nil => simp [Slots.mapv,Slots.get,hf]
 | cons e r ih =>
   obtain ⟨k,x⟩:=e
   simp only [Slots.mapv,Slots.get]
   cases Nat.beq u k <;> simp [ih]
theorem memN_iff (t : Nat) (l : List Nat) : memN t l = true ↔ t ∈ l:=by
 induction l with
 | nil => simp [memN]
 | cons k r ih => simp [memN,ih]
theorem get_keep (l : List Nat) (st : Slots) (u : Nat) : (st.keep l).get u = if u ∈ l then st.get u else .dead:=by
 induction st with
 | nil => simp [Slots.keep,Slots.get]
 | cons e r ih =>
   obtain ⟨k,x⟩:=e
   simp only [Slots.keep]
   cases hm : memN k l with
   | true =>
     have hk:=(memN_iff k l).1 hm
     simp only [Slots.get]
     by_cases h : u = k
     · subst h;simp [hk]
     · have : Nat.beq u k = false:=nbeq h
       simp [this,ih]
   | false =>
     have hk : ¬ k ∈ l:=fun h => by rw [(memN_iff k l).2 h] at hm;cases hm
     simp only [Slots.get,ih]
     by_cases h : u = k
     · subst h;simp [hk]
     · have : Nat.beq u k = false:=nbeq h
       simp [this]
theorem addr_add (b o n : Nat) : (⟨b,o,none⟩ : Addr).add n = ⟨b,o + n,none⟩:=by
 unfold Addr.add
 split
 · next h => subst h;simp
 · rfl
inductive RepV (w : World) (O : Nat → Prop) : PV → Value → Prop
 | undef : RepV w O .undef Go.undef
 | bool (b : Bool) : RepV w O (.bool b) (.bool b)
 | int (k : IntKind) (n : Int) : RepV w O (.int k n) (.int k n)
 | str (s : ByteArray) : RepV w O (.str s.data.toList) (.string s)
 | slNil (sh : Option Nat) : RepV w O (.sl sh []) (.slice none 0 0)
 | sl (sh : Option Nat) (xs : List PV) (a : Addr) (c : Nat) (us : Nat → Nat → Value) (hc : xs.length ≤ c)
    (hf : ∀ (i : Nat) (x : PV),xs[i]? = some x → pvFits sh x = true)
    (hk : ∀ (i : Nat) (x : PV) (j : Nat) (y : PV),xs[i]? = some x → x.cells[j]? = some y → isCell y = true)
    (ho : ∀ (i : Nat) (x : PV) (j : Nat) (y : PV),xs[i]? = some x → x.cells[j]? = some y → ¬ O a.block)
    (hm : ∀ (i : Nat) (x : PV) (j : Nat) (y : PV),xs[i]? = some x → x.cells[j]? = some y → w.cell? (a.add (i * shN sh + j)) = some (us i j))
    (hr : ∀ (i : Nat) (x : PV) (j : Nat) (y : PV),xs[i]? = some x → x.cells[j]? = some y → RepV w O y (us i j)) :
    RepV w O (.sl sh xs) (.slice (some a) xs.length c)
 | agg (cs : List PV) (vs : Array Value) (us : Nat → Value) (hl : vs.size = cs.length)
    (hk : ∀ (j : Nat) (y : PV),cs[j]? = some y → isCell y = true)
    (hm : ∀ (j : Nat) (y : PV),cs[j]? = some y → vs[j]? = some (us j)) (hr : ∀ (j : Nat) (y : PV),cs[j]? = some y → RepV w O y (us j)) : RepV w O (.agg cs) (.agg vs)
 | nilp : RepV w O .nilp (.pointer none)
 | ptr (sh : Option Nat) (v : PV) (a : Addr) (us : Nat → Value) (hf : pvFits sh v = true)
    (hk : ∀ (j : Nat) (y : PV),v.cells[j]? = some y → isCell y = true)
    (ho : ∀ (j : Nat) (y : PV),v.cells[j]? = some y → ¬ O a.block)
    (hm : ∀ (j : Nat) (y : PV),v.cells[j]? = some y → w.cell? (a.add j) = some (us j)) (hr : ∀ (j : Nat) (y : PV),v.cells[j]? = some y → RepV w O y (us j)) :
    RepV w O (.ptr sh v) (.pointer (some a))
 | fn (f : Fn) (first cap : List PV) (fs cs : Array Value) (uf uc : Nat → Value) (hlf : fs.size = first.length) (hlc : cs.size = cap.length)
    (hf : ∀ (j : Nat) (y : PV),first[j]? = some y → fs[j]? = some (uf j)) (hrf : ∀ (j : Nat) (y : PV),first[j]? = some y → RepV w O y (uf j))
    (hc : ∀ (j : Nat) (y : PV),cap[j]? = some y → cs[j]? = some (uc j)) (hrc : ∀ (j : Nat) (y : PV),cap[j]? = some y → RepV w O y (uc j)) :
    RepV w O (.fn f first cap) (.func f fs cs)
 | nilfn : RepV w O .nilfn .nilFunc
theorem add_block (a : Addr) (n : Nat) : (a.add n).block = a.block:=by
 unfold Addr.add;split <;> rfl
theorem cell_lt {w : World} {a : Addr} {v : Value} (h : w.cell? a = some v) : a.block < w.heap.size:=by
 unfold World.cell? at h
 split at h
 · rename_i hh
   exact (Array.getElem?_eq_some_iff.1 hh).1
 · cases h
theorem cell_same {w w' : World} {a : Addr} (h : w'.heap[a.block]? = w.heap[a.block]?) : w'.cell? a = w.cell? a:=by
 unfold World.cell?;rw [h]
theorem RepV.move {w w' : World} {O O' : Nat → Prop} (H : ∀ k,k < w.heap.size → ¬ O k → w'.heap[k]? = w.heap[k]? ∧ ¬ O' k)
 {p : PV} {v : Value} (h : RepV w O p v) : RepV w' O' p v:=by
 induction h with
 | undef => exact .undef
 | bool b => exact .bool b
 | int k n => exact .int k n
 | str s => exact .str s
 | slNil sh => exact .slNil sh
 | sl sh xs a c us hc hf hk ho hm hr ih =>
   have hb : ∀ (i : Nat) (x : PV) (j : Nat) (y : PV),xs[i]? = some x → x.cells[j]? = some y → w'.heap[a.block]? = w.heap[a.block]? ∧ ¬ O' a.block:=fun i x j y h1 h2 => by
    have:=cell_lt (hm i x j y h1 h2)
    rw [add_block] at this
    exact H _ this (ho i x j y h1 h2)
   refine .sl sh xs a c us hc hf hk (fun i x j y h1 h2 => (hb i x j y h1 h2).2) (fun i x j y h1 h2 => ?_) (fun i x j y h1 h2 => ih i x j y h1 h2)
   rw [cell_same (w:=w) (by rw [add_block];exact (hb i x j y h1 h2).1)]
   exact hm i x j y h1 h2
 | agg cs vs us hl hk hm hr ih => exact .agg cs vs us hl hk hm ih
 | nilp => exact .nilp
 | ptr sh v a us hf hk ho hm hr ih =>
   have hb : ∀ (j : Nat) (y : PV),v.cells[j]? = some y → w'.heap[a.block]? = w.heap[a.block]? ∧ ¬ O' a.block:=fun j y h1 => by
    have:=cell_lt (hm j y h1)
    rw [add_block] at this
    exact H _ this (ho j y h1)
   refine .ptr sh v a us hf hk (fun j y h1 => (hb j y h1).2) (fun j y h1 => ?_) ih
   rw [cell_same (w:=w) (by rw [add_block];exact (hb j y h1).1)]
   exact hm j y h1
 | fn f first cap fs cs uf uc hlf hlc hf hrf hc hrc ihf ihc => exact .fn f first cap fs cs uf uc hlf hlc hf ihf hc ihc
 | nilfn => exact .nilfn
def Thawed (_cur : Array Value) (fr : Nat × Nat) : Prop:=fr.1 = fr.2
theorem Thawed.out {cur : Array Value} {fr : Nat × Nat} (h : Thawed cur fr) (i : Nat) (hi : i < cur.size) : ¬ (fr.1 ≤ i ∧ i < fr.2):=by
 have : fr.1 = fr.2:=h
 omega
theorem Thawed.size {cur cur' : Array Value} {fr : Nat × Nat} (h : Thawed cur fr) (hs : cur'.size = cur.size) : Thawed cur' fr:=h
structure OwnAt (w : World) (O : Nat → Prop) (sh : Option Nat) (xs sp : List PV) (b c : Nat) (cur : Array Value) (e : TypeId) (fr : Nat × Nat) (us : Nat → Nat → Value) : Prop where
 heap : w.heap[b]? = some (.cells cur e fr)
 thaw : Thawed cur fr
 size : c * shN sh ≤ cur.size
 len : xs.length ≤ c
 fits : ∀ (i : Nat) (x : PV),xs[i]? = some x → pvFits sh x = true
 cell : ∀ (i : Nat) (x : PV) (j : Nat) (y : PV),xs[i]? = some x → x.cells[j]? = some y → isCell y = true
 at_ : ∀ (i : Nat) (x : PV) (j : Nat) (y : PV),xs[i]? = some x → x.cells[j]? = some y → cur[i * shN sh + j]? = some (us i j)
 rep : ∀ (i : Nat) (x : PV) (j : Nat) (y : PV),xs[i]? = some x → x.cells[j]? = some y → RepV w O y (us i j)
 spare : ∀ (j : Nat) (y : PV),sp[j]? = some y → ∃ u,cur[xs.length * shN sh + j]? = some u ∧ RepV w O y u
 capL : c ≤ 9223372036854775807
 spL : xs.length + sp.length ≤ c
inductive FRep (w : World) (O : Nat → Prop) : FV → Value → Option Nat → Prop
 | val (v : PV) (u : Value) (h : RepV w O v u) : FRep w O (.val v) u none
 | nil (sh : Option Nat) : FRep w O (.nil sh) (.slice none 0 0) none
 | ownE (sh : Option Nat) (A : Option Addr) : FRep w O (.own sh [] []) (.slice A 0 0) none
 | own (sh : Option Nat) (xs sp : List PV) (b c : Nat) (cur : Array Value) (e : TypeId) (fr : Nat × Nat) (us : Nat → Nat → Value)
    (h : OwnAt w O sh xs sp b c cur e fr us) : FRep w O (.own sh xs sp) (.slice (some ⟨b,0,none⟩) xs.length c) (some b)
 | gone (u : Value) : FRep w O .gone u none
def FV.cellOk : FV → Prop
 | .val v => isCell v = true
 | _ => True
structure Cells (w : World) (O : Nat → Prop) (cs : List FV) (get : Nat → Option Value) (β : Nat → Option Nat) : Prop where
 rep : ∀ (j : Nat) (f : FV),cs[j]? = some f → ∃ u,get j = some u ∧ FRep w O f u (β j)
 none_ : ∀ j,cs.length ≤ j → β j = none
inductive ORep (w : World) (O : Nat → Prop) : OV → Value → Option Nat → (Nat → Option Nat) → Prop
 | flat (f : FV) (u : Value) (b : Option Nat) (h : FRep w O f u b) : ORep w O (.flat f) u b (fun _ => none)
 | agg (cs : List FV) (us : Array Value) (β : Nat → Option Nat) (hl : us.size = cs.length) (hk : ∀ (j : Nat) (f : FV),cs[j]? = some f → f.cellOk)
    (h : Cells w O cs (us[·]?) β) : ORep w O (.cont .agg cs) (.agg us) none β
 | tup (cs : List FV) (us : Array Value) (β : Nat → Option Nat) (hl : us.size = cs.length)
    (h : Cells w O cs (us[·]?) β) : ORep w O (.cont .tup cs) (.tuple us) none β
 | box (cs : List FV) (b : Nat) (cur : Array Value) (e : TypeId) (fr : Nat × Nat) (β : Nat → Option Nat) (hb : w.heap[b]? = some (.cells cur e fr)) (ht : Thawed cur fr)
    (hl : cur.size = cs.length) (hk : ∀ (j : Nat) (f : FV),cs[j]? = some f → f.cellOk) (h : Cells w O cs (cur[·]?) β) : ORep w O (.cont .box cs) (.pointer (some ⟨b,0,none⟩)) (some b) β
 | nestE (A : Option Addr) : ORep w O (.cont .nest []) (.slice A 0 0) none (fun _ => none)
 | entsE (A : Option Addr) : ORep w O (.cont .ents []) (.slice A 0 0) none (fun _ => none)
 | ents (cs : List FV) (n b c : Nat) (cur : Array Value) (e : TypeId) (fr : Nat × Nat) (β : Nat → Option Nat) (hb : w.heap[b]? = some (.cells cur e fr)) (ht : Thawed cur fr)
    (hl : cur.size = 2 * c) (hn : cs.length = 2 * n) (hc : n ≤ c) (hk : ∀ (j : Nat) (f : FV),cs[j]? = some f → f.cellOk) (hg : ∀ (j : Nat) (f : FV),cs[j]? = some f → f.whole = true) (h : Cells w O cs (cur[·]?) β) : ORep w O (.cont .ents cs) (.slice (some ⟨b,0,none⟩) n c) (some b) β
 | tn (cs : List FV) (ps : List PV) (us : Array Value) (u0 : Value) (m : Option Nat) (β : Nat → Option Nat) (hn : ORep w O (.cont .nest cs) u0 m β) (hl : us.size = ps.length + 1)
    (h0 : us[0]? = some u0) (hp : ∀ (j : Nat) (p : PV),ps[j]? = some p → ∃ u,us[j + 1]? = some u ∧ RepV w O p u) : ORep w O (.tn cs ps) (.tuple us) m β
 | nest (cs : List FV) (b c : Nat) (cur : Array Value) (e : TypeId) (fr : Nat × Nat) (β : Nat → Option Nat) (hb : w.heap[b]? = some (.cells cur e fr)) (ht : Thawed cur fr)
    (hl : cur.size = c) (hc : cs.length ≤ c) (hk : ∀ (j : Nat) (f : FV),cs[j]? = some f → f.cellOk) (hg : ∀ (j : Nat) (f : FV),cs[j]? = some f → f.whole = true) (h : Cells w O cs (cur[·]?) β) : ORep w O (.cont .nest cs) (.slice (some ⟨b,0,none⟩) cs.length c) (some b) β
structure Keeps (w w' : World) (O O' : Nat → Prop) (own : Nat → Prop) : Prop where
 frz : ∀ k,k < w.heap.size → ¬ O k → w'.heap[k]? = w.heap[k]? ∧ ¬ O' k
 own : ∀ k,own k → w'.heap[k]? = w.heap[k]?
theorem FRep.move {w w' : World} {O O' : Nat → Prop} {f : FV} {u : Value} {b : Option Nat} (h : FRep w O f u b) (H : Keeps w w' O O' (fun k => b = some k)) : FRep w' O' f u b:=by
 cases h with
 | val v u h => exact .val v u (h.move H.frz)
 | nil sh => exact .nil sh
 | ownE sh A => exact .ownE sh A
 | own sh xs sp b c cur e fr us h =>
   exact .own sh xs sp b c cur e fr us
    { heap:=by rw [H.own b rfl];exact h.heap
      thaw:=h.thaw,size:=h.size,len:=h.len,fits:=h.fits,cell:=h.cell,at_:=h.at_
      rep:=fun i x j y h1 h2 => (h.rep i x j y h1 h2).move H.frz
      spare:=fun j y h1 => let ⟨u,h2,h3⟩:=h.spare j y h1;⟨u,h2,h3.move H.frz⟩,capL:=h.capL,spL:=h.spL }
 | gone u => exact .gone u
theorem Cells.move {w w' : World} {O O' : Nat → Prop} {cs : List FV} {get : Nat → Option Value} {β : Nat → Option Nat} (h : Cells w O cs get β)
 (H : Keeps w w' O O' (fun k => ∃ j,β j = some k)) : Cells w' O' cs get β :=
 ⟨fun j f hj => let ⟨u,h1,h2⟩:=h.rep j f hj;⟨u,h1,h2.move ⟨H.frz,fun k hk => H.own k ⟨j,hk⟩⟩⟩,h.none_⟩
theorem ORep.move {w w' : World} {O O' : Nat → Prop} {o : OV} {u : Value} {m : Option Nat} {β : Nat → Option Nat} (h : ORep w O o u m β)
 (H : Keeps w w' O O' (fun k => m = some k ∨ ∃ j,β j = some k)) : ORep w' O' o u m β := by
 have hβ : Keeps w w' O O' (fun k => ∃ j,β j = some k):=⟨H.frz,fun k hk => H.own k (.inr hk)⟩
 cases h with
 | flat f u b h => exact .flat f u m (h.move ⟨H.frz,fun k hk => H.own k (.inl hk)⟩)
 | agg cs us β hl hk h => exact .agg cs us β hl hk (h.move hβ)
 | tup cs us β hl h => exact .tup cs us β hl (h.move hβ)
 | box cs b cur e fr β hb ht hl hk h => exact .box cs b cur e fr β (by rw [H.own b (.inl rfl)];exact hb) ht hl hk (h.move hβ)
 | nestE A => exact .nestE A
 | entsE A => exact .entsE A
 | ents cs n b c cur e fr β hb ht hl hn hc hk hg h => exact .ents cs n b c cur e fr β (by rw [H.own b (.inl rfl)];exact hb) ht hl hn hc hk hg (h.move hβ)
 | tn cs ps us u0 m β hn hl h0 hp =>
   refine .tn cs ps us u0 m β ?_ hl h0 fun j p hj => let ⟨u,h1,h2⟩:=hp j p hj;⟨u,h1,h2.move H.frz⟩
   cases hn with
   | nestE A => exact .nestE A
   | nest cs b c cur e fr β hb ht hl hc hk hg h => exact .nest cs b c cur e fr β (by rw [H.own b (.inl rfl)];exact hb) ht hl hc hk hg (h.move hβ)
 | nest cs b c cur e fr β hb ht hl hc hk hg h => exact .nest cs b c cur e fr β (by rw [H.own b (.inl rfl)];exact hb) ht hl hc hk hg (h.move hβ)
end Go.Ev

namespace Go.Ev
abbrev Blk:=Nat → Option Nat → Option Nat
def Blk.has (blk : Blk) (k : Nat) : Prop := ∃ t c,blk t c = some k
def Blk.off (blk : Blk) (Oc : Nat → Prop) (k : Nat) : Prop:=blk.has k ∨ Oc k
inductive PathV (w : World) : Value → OV → Option Nat → Value → Prop
 | top (v : Value) (o : OV) : PathV w v o none v
 | agg (us : Array Value) (cs : List FV) (j : Nat) (u : Value) (h : us[j]? = some u) : PathV w (.agg us) (.cont .agg cs) (some j) u
 | tup (us : Array Value) (cs : List FV) (j : Nat) (u : Value) (h : us[j]? = some u) : PathV w (.tuple us) (.cont .tup cs) (some j) u
 | box (b : Nat) (cs : List FV) (j : Nat) (u : Value) (h : w.cell? ⟨b,j,none⟩ = some u) : PathV w (.pointer (some ⟨b,0,none⟩)) (.cont .box cs) (some j) u
 | nest (b n c : Nat) (cs : List FV) (j : Nat) (u : Value) (h : w.cell? ⟨b,j,none⟩ = some u) : PathV w (.slice (some ⟨b,0,none⟩) n c) (.cont .nest cs) (some j) u
 | ents (b n c : Nat) (cs : List FV) (j : Nat) (u : Value) (h : w.cell? ⟨b,j,none⟩ = some u) : PathV w (.slice (some ⟨b,0,none⟩) n c) (.cont .ents cs) (some j) u
def blockOf : Value → Option Nat
 | .pointer (some ⟨b,0,none⟩) => some b
 | .slice (some ⟨b,0,none⟩) _ _ => some b
 | _ => none
def RangeV (w : World) (v : Value) (o : OV) (j n : Nat) (u : Value) : Prop :=
 ∃ us : Array Value,u = .agg us ∧ us.size = n ∧ ∀ q,q < n → ∃ x,us[q]? = some x ∧ PathV w v o (some (j + q)) x
def SVRep (w : World) (O : Nat → Prop) (st : Slots) (tm : Nat → Value) (v : SV) (u : Value) (blk : Option Nat → Option Nat) : Prop :=
 match v with
 | .home o => ORep w O o u (blk none) (fun j => blk (some j))
 | .dead => ∀ c,blk c = none
 | .ref s c => (∀ c',blk c' = none) ∧ ∀ o,st.get s = .home o → (∃ x,o.at c = some x) ∧ PathV w (tm s) o c u
 | .adr s j => (∀ c',blk c' = none) ∧ ∀ o,st.get s = .home o → ∃ b,blockOf (tm s) = some b ∧ u = .pointer (some ⟨b,j,none⟩)
 | .adrx s j => (∀ c',blk c' = none) ∧ ∀ o,st.get s = .home o → ∃ b,blockOf (tm s) = some b ∧ u = .pointer (some ⟨b,j,none⟩)
 | .adre s c i off => (∀ c',blk c' = none) ∧ ∀ o sh xs sp,st.get s = .home o → o.at c = some (.flat (.own sh xs sp)) →
    ∃ x b,PathV w (tm s) o c x ∧ blockOf x = some b ∧ u = .pointer (some ⟨b,i * shN sh + off,none⟩)
 | .view s c l h => (∀ c',blk c' = none) ∧ ∀ o sh xs sp,st.get s = .home o → o.at c = some (.flat (.own sh xs sp)) → l ≤ h ∧ h ≤ xs.length ∧
    ∃ x,PathV w (tm s) o c x ∧ ((∃ b n cap c',blockOf x = some b ∧ x = .slice (some ⟨b,0,none⟩) n cap ∧ u = .slice (some ⟨b,l * shN sh,none⟩) (h - l) c' ∧ h - l ≤ c' ∧ c' + l ≤ cap) ∨ (h = l ∧ ∃ A c',u = .slice A 0 c' ∧ c' = 0))
 | .rng s j n => (∀ c',blk c' = none) ∧ ∀ o,st.get s = .home o → (∃ k cs,o = .cont k cs ∧ j + n ≤ cs.length ∧ k ≠ .tup) ∧ RangeV w (tm s) o j n u
 | .fadr sh p => (∀ c',blk c' = none) ∧ RepV w O (.ptr sh p) u
structure SRel (w : World) (Oc : Nat → Prop) (st : Slots) (tm : Nat → Value) (blk : Blk) : Prop where
 rep : ∀ t,SVRep w (blk.off Oc) st tm (st.get t) (tm t) (blk t)
 inj : ∀ t c t' c' k,blk t c = some k → blk t' c' = some k → t = t' ∧ c = c'
 out : ∀ t c k,blk t c = some k → ¬ Oc k ∧ k < w.heap.size
theorem PathV.move {w w' : World} {v : Value} {o : OV} {c : Option Nat} {u : Value} (h : PathV w v o c u)
 (H : ∀ b,blockOf v = some b → w'.heap[b]? = w.heap[b]?) : PathV w' v o c u:=by
 cases h with
 | top v o => exact .top _ _
 | agg us cs j u h => exact .agg us cs j u h
 | tup us cs j u h => exact .tup us cs j u h
 | box b cs j u h => exact .box b cs j u (by rw [cell_same (w:=w) (H b rfl)];exact h)
 | nest b n c cs j u h => exact .nest b n c cs j u (by rw [cell_same (w:=w) (H b rfl)];exact h)
 | ents b n c cs j u h => exact .ents b n c cs j u (by rw [cell_same (w:=w) (H b rfl)];exact h)
theorem PathV.top_eq {w : World} {v : Value} {o : OV} {u : Value} (h : PathV w v o none u) : u = v:=by cases h;rfl
theorem at_cont {o : OV} {j : Nat} {x : OV} (h : o.at (some j) = some x) : ∃ k cs f,o = .cont k cs ∧ cs[j]? = some f ∧ x = .flat f:=by
 cases o with
 | flat f => simp [OV.at] at h
 | tn cs ps => simp [OV.at] at h
 | cont k cs =>
   simp only [OV.at] at h
   cases hj : cs[j]? with
   | none => simp [hj] at h
   | some f => simp [hj] at h;exact ⟨k,cs,f,rfl,hj,h.symm⟩
theorem ORep.block {w : World} {O : Nat → Prop} {k : CK} {cs : List FV} {v : Value} {m : Option Nat} {β : Nat → Option Nat} (h : ORep w O (.cont k cs) v m β) (hc : cs ≠ [])
 (b : Nat) (hb : blockOf v = some b) : m = some b:=by
 cases h with
 | agg cs us β hl hk h => simp [blockOf] at hb
 | tup cs us β hl h => simp [blockOf] at hb
 | box cs b' cur e fr β h1 h2 h3 h4 h5 => simpa [blockOf] using hb
 | nestE A => exact absurd rfl hc
 | entsE A => exact absurd rfl hc
 | ents cs n b' c cur e fr β h1 h2 h3 h4 h5 h6 h7 h8 => simpa [blockOf] using hb
 | nest cs b' c cur e fr β h1 h2 h3 h4 h5 h6 h7 => simpa [blockOf] using hb
theorem SVRep.move {w w' : World} {O O' : Nat → Prop} {st st' : Slots} {tm tm' : Nat → Value} {v : SV} {u : Value} {blk : Option Nat → Option Nat} (h : SVRep w O st tm v u blk)
 (H : Keeps w w' O O' (fun k => ∃ c,blk c = some k))
 (hr : ∀ s,v.root = some s → ∀ o,st'.get s = .home o → st.get s = .home o ∧ tm' s = tm s ∧ ∀ k cs,o = .cont k cs → cs ≠ [] → ∀ b,blockOf (tm s) = some b → w'.heap[b]? = w.heap[b]?) :
 SVRep w' O' st' tm' v u blk:=by
 have path : ∀ s,v.root = some s → ∀ o c x,st'.get s = .home o → o.at c = some x → ∀ y,PathV w (tm s) o c y → PathV w' (tm' s) o c y:=by
  intro s hs o c x hg hx y hp
  obtain ⟨h1,h2,h3⟩:=hr s hs o hg
  rw [h2]
  cases c with
  | none => rw [hp.top_eq];exact .top _ _
  | some j =>
    obtain ⟨k,cs,f,rfl,hj,_⟩:=at_cont hx
    exact hp.move (h3 k cs rfl (by intro e;subst e;simp at hj))
 cases v with
 | dead => exact h
 | home o => exact ORep.move h ⟨H.frz,fun k hk => H.own k (by rcases hk with hk | ⟨j,hk⟩ <;> exact ⟨_,hk⟩)⟩
 | ref s c =>
   refine ⟨h.1,fun o ho => ?_⟩
   obtain ⟨⟨x,hx⟩,hp⟩:=h.2 o (hr s rfl o ho).1
   exact ⟨⟨x,hx⟩,path s rfl o c x ho hx _ hp⟩
 | adr s j =>
   refine ⟨h.1,fun o ho => ?_⟩
   rw [(hr s rfl o ho).2.1]
   exact h.2 o (hr s rfl o ho).1
 | adrx s j =>
   refine ⟨h.1,fun o ho => ?_⟩
   rw [(hr s rfl o ho).2.1]
   exact h.2 o (hr s rfl o ho).1
 | adre s c i off =>
   refine ⟨h.1,fun o sh xs sp ho hx => ?_⟩
   obtain ⟨x,b,hp,hb⟩:=h.2 o sh xs sp (hr s rfl o ho).1 hx
   exact ⟨x,b,path s rfl o c _ ho hx _ hp,hb⟩
 | view s c l h' =>
   refine ⟨h.1,fun o sh xs sp ho hx => ?_⟩
   obtain ⟨h1,h2,x,hp,hb⟩:=h.2 o sh xs sp (hr s rfl o ho).1 hx
   exact ⟨h1,h2,x,path s rfl o c _ ho hx _ hp,hb⟩
 | rng s j n =>
   refine ⟨h.1,fun o ho => ?_⟩
   obtain ⟨⟨k,cs,rfl,hl,hkt⟩,us,h1,h2,h3⟩:=h.2 o (hr s rfl o ho).1
   refine ⟨⟨k,cs,rfl,hl,hkt⟩,us,h1,h2,fun q hq => ?_⟩
   obtain ⟨x,a,b⟩:=h3 q hq
   have : ∃ f,cs[j + q]? = some f:=⟨cs[j + q]'(by omega),by simp⟩
   obtain ⟨f,hf⟩:=this
   exact ⟨x,a,path s rfl _ (some (j + q)) (.flat f) ho (by simp [OV.at,hf]) x b⟩
 | fadr sh p => exact ⟨h.1,h.2.move H.frz⟩
def Blk.at (blk : Blk) (s : Nat) (k : Nat) : Prop := ∃ c,blk s c = some k
def updN {α : Type} (f : Nat → α) (s : Nat) (x : α) : Nat → α := fun t => if t = s then x else f t
theorem updN_same {α : Type} (f : Nat → α) (s : Nat) (x : α) : updN f s x s = x:=by simp [updN]
theorem updN_ne {α : Type} (f : Nat → α) {s t : Nat} (x : α) (h : t ≠ s) : updN f s x t = f t:=by simp [updN,h]
theorem get_on (k : Cut) (s : Nat) (st : Slots) (t : Nat) : (k.on s st).get t = match k with
 | .no => st.get t
 | .all => SV.cutAll s (st.get t)
 | .cells lo n => SV.cutCells s lo n (st.get t):=by
 cases k with
 | no => rfl
 | all => exact get_mapv _ rfl _ _
 | cells lo n => exact get_mapv _ rfl _ _
theorem get_edit (e : Edit) (st : Slots) (t : Nat) : (e.on st).get t = if t = e.s then e.v else (e.cut.on e.s st).get t:=get_ins _ _ _ _
theorem cut_or (k : Cut) (s : Nat) (st : Slots) (t : Nat) : (k.on s st).get t = st.get t ∨ ((k.on s st).get t = .dead ∧ (st.get t).root = some s):=by
 rw [get_on]
 cases k with
 | no => exact .inl rfl
 | all =>
   dsimp only
   unfold SV.cutAll
   cases hr : (st.get t).root with
   | none => exact .inl rfl
   | some r =>
     dsimp only
     by_cases h : r = s
     · subst h;simp
     · simp [nbeq h]
 | cells lo n =>
   dsimp only
   unfold SV.cutCells
   cases hr : (st.get t).rootc with
   | none => exact .inl rfl
   | some r =>
     obtain ⟨r,c,m⟩:=r
     dsimp only
     have hroot : (st.get t).root = some r:=by
      cases hv : st.get t with
      | ref a b => cases b <;> simp_all [SV.root,SV.rootc]
      | adre a b i o => cases b <;> simp_all [SV.root,SV.rootc]
      | view a b i o => cases b <;> simp_all [SV.root,SV.rootc]
      | rng a b c => simp_all [SV.root,SV.rootc]
      | _ => simp_all [SV.root,SV.rootc]
     split
     · rename_i heq
       right
       refine ⟨rfl,?_⟩
       rw [hroot]
       simp only [Bool.and_eq_true] at heq
       rw [Nat.eq_of_beq_eq_true heq.1]
     · exact .inl rfl
theorem cut_home (k : Cut) (s : Nat) (st : Slots) (t : Nat) (o : OV) : (k.on s st).get t = .home o ↔ st.get t = .home o:=by
 rcases cut_or k s st t with h | ⟨h,hr⟩
 · rw [h]
 · rw [h]
   constructor
   · intro h;cases h
   · intro h2;rw [h2] at hr;simp [SV.root] at hr
theorem SRel.edit {w w' : World} {Oc Oc' : Nat → Prop} {st : Slots} {tm : Nat → Value} {blk : Blk} (h : SRel w Oc st tm blk) (e : Edit) (u : Value) (b' : Option Nat → Option Nat)
 (hs : w.heap.size ≤ w'.heap.size)
 (hw : ∀ k,k < w.heap.size → ¬ Oc k → ¬ blk.at e.s k → w'.heap[k]? = w.heap[k]?)
 (hO : ∀ k,k < w.heap.size → Oc' k → Oc k ∨ blk.at e.s k)
 (hb : ∀ c k,b' c = some k → (blk.at e.s k ∨ Oc k ∨ w.heap.size ≤ k) ∧ ¬ Oc' k ∧ k < w'.heap.size)
 (hi : ∀ c c' k,b' c = some k → b' c' = some k → c = c')
 (hv : SVRep w' (Blk.off (updN blk e.s b') Oc') (e.on st) (updN tm e.s u) e.v u b')
 (ha : ∀ t,t ≠ e.s → ((e.cut.on e.s st).get t).root = some e.s → SVRep w (blk.off Oc) st tm (st.get t) (tm t) (blk t) →
   SVRep w' (Blk.off (updN blk e.s b') Oc') (e.on st) (updN tm e.s u) ((e.cut.on e.s st).get t) (tm t) (blk t)) :
 SRel w' Oc' (e.on st) (updN tm e.s u) (updN blk e.s b'):=by
 have hfrz : ∀ k,k < w.heap.size → ¬ blk.off Oc k → w'.heap[k]? = w.heap[k]? ∧ ¬ Blk.off (updN blk e.s b') Oc' k:=by
  intro k hk hno
  have h1 : ¬ Oc k:=fun x => hno (.inr x)
  have h2 : ¬ blk.at e.s k:=fun ⟨c,x⟩ => hno (.inl ⟨_,_,x⟩)
  refine ⟨hw k hk h1 h2,?_⟩
  rintro (⟨t,c,hh⟩ | hh)
  · by_cases ht : t = e.s
    · subst ht
      rw [updN_same] at hh
      rcases (hb c k hh).1 with x | x | x
      · exact h2 x
      · exact h1 x
      · omega
    · rw [updN_ne _ _ ht] at hh
      exact hno (.inl ⟨t,c,hh⟩)
  · rcases hO k hk hh with x | x
    · exact h1 x
    · exact h2 x
 refine ⟨fun t => ?_,?_,?_⟩
 · rw [get_edit]
   by_cases ht : t = e.s
   · subst ht
     simp only [if_true,updN_same]
     exact hv
   · rw [if_neg ht,updN_ne _ _ ht,updN_ne _ _ ht]
     have hrep:=h.rep t
     by_cases hroot : ((e.cut.on e.s st).get t).root = some e.s
     · exact ha t ht hroot hrep
     · rcases cut_or e.cut e.s st t with hc | ⟨hc,hr⟩
       · rw [hc] at hroot ⊢
         refine hrep.move ⟨hfrz,?_⟩ ?_
         · rintro k ⟨c,hk⟩
           refine hw k (h.out t c k hk).2 (h.out t c k hk).1 ?_
           rintro ⟨c',hk'⟩
           exact ht (h.inj _ _ _ _ _ hk hk').1
         · intro s hs' o ho
           have hse : s ≠ e.s:=fun x => hroot (by rw [hs',x])
           rw [get_edit,if_neg hse] at ho
           have ho:=(cut_home _ _ _ _ _).1 ho
           refine ⟨ho,updN_ne _ _ hse,?_⟩
           intro k cs hg hne b hbo
           have hr2:=h.rep s
           rw [ho,hg] at hr2
           have hm:=ORep.block hr2 hne b hbo
           refine hw b (h.out s none b hm).2 (h.out s none b hm).1 ?_
           rintro ⟨c',hk'⟩
           exact hse (h.inj _ _ _ _ _ hm hk').1
       · rw [hc]
         intro c
         cases hv' : st.get t with
         | dead => rw [hv'] at hr;simp [SV.root] at hr
         | home o => rw [hv'] at hr;simp [SV.root] at hr
         | fadr a b => rw [hv'] at hr;simp [SV.root] at hr
         | ref a b => rw [hv'] at hrep;exact hrep.1 c
         | adr a b => rw [hv'] at hrep;exact hrep.1 c
         | adrx a b => rw [hv'] at hrep;exact hrep.1 c
         | adre a b c d => rw [hv'] at hrep;exact hrep.1 _
         | view a b c d => rw [hv'] at hrep;exact hrep.1 _
         | rng a b c => rw [hv'] at hrep;exact hrep.1 _
 · intro t c t' c' k h1 h2
   by_cases ht : t = e.s <;> by_cases ht' : t' = e.s
   · subst ht;subst ht'
     rw [updN_same] at h1 h2
     exact ⟨rfl,hi _ _ _ h1 h2⟩
   · subst ht
     rw [updN_same] at h1
     rw [updN_ne _ _ ht'] at h2
     exfalso
     rcases (hb c k h1).1 with ⟨c2,x⟩ | x | x
     · exact ht' (h.inj _ _ _ _ _ h2 x).1
     · exact (h.out _ _ _ h2).1 x
     · exact absurd (h.out _ _ _ h2).2 (by omega)
   · subst ht'
     rw [updN_same] at h2
     rw [updN_ne _ _ ht] at h1
     exfalso
     rcases (hb c' k h2).1 with ⟨c2,x⟩ | x | x
     · exact ht (h.inj _ _ _ _ _ h1 x).1
     · exact (h.out _ _ _ h1).1 x
     · exact absurd (h.out _ _ _ h1).2 (by omega)
   · rw [updN_ne _ _ ht] at h1
     rw [updN_ne _ _ ht'] at h2
     exact h.inj _ _ _ _ _ h1 h2
 · intro t c k h1
   by_cases ht : t = e.s
   · subst ht
     rw [updN_same] at h1
     exact (hb c k h1).2
   · rw [updN_ne _ _ ht] at h1
     obtain ⟨a,b⟩:=h.out _ _ _ h1
     refine ⟨fun x => ?_,by omega⟩
     rcases hO k b x with y | ⟨c2,y⟩
     · exact a y
     · exact ht (h.inj _ _ _ _ _ h1 y).1
theorem cutAll_root (s : Nat) (v : SV) : (SV.cutAll s v).root ≠ some s:=by
 unfold SV.cutAll
 cases hr : v.root with
 | none => simp [hr]
 | some r =>
   dsimp only
   by_cases h : r = s
   · subst h;simp [SV.root]
   · rw [nbeq h];dsimp only;rw [hr];simpa using h
theorem updN_self {α : Type} (f : Nat → α) (s : Nat) : updN f s (f s) = f:=by
 funext t;unfold updN;split <;> simp_all
theorem SRel.world {w w' : World} {Oc Oc' : Nat → Prop} {st : Slots} {tm : Nat → Value} {blk : Blk} (h : SRel w Oc st tm blk) (hs : w.heap.size ≤ w'.heap.size)
 (hw : ∀ k,k < w.heap.size → ¬ Oc k → w'.heap[k]? = w.heap[k]?) (hO : ∀ k,k < w.heap.size → Oc' k → Oc k) : SRel w' Oc' st tm blk:=by
 have hfrz : ∀ k,k < w.heap.size → ¬ blk.off Oc k → w'.heap[k]? = w.heap[k]? ∧ ¬ blk.off Oc' k:=by
  intro k hk hno
  refine ⟨hw k hk fun x => hno (.inr x),?_⟩
  rintro (x | x)
  · exact hno (.inl x)
  · exact hno (.inr (hO k hk x))
 refine ⟨fun t => (h.rep t).move ⟨hfrz,?_⟩ ?_,h.inj,fun t c k hk => ?_⟩
 · rintro k ⟨c,hk⟩
   exact hw k (h.out _ _ _ hk).2 (h.out _ _ _ hk).1
 · intro s _ o ho
   refine ⟨ho,rfl,fun k cs hg hne b hb => ?_⟩
   have hr2:=h.rep s
   rw [ho,hg] at hr2
   have hm:=ORep.block hr2 hne b hb
   exact hw b (h.out _ _ _ hm).2 (h.out _ _ _ hm).1
 · obtain ⟨a,b⟩:=h.out _ _ _ hk
   exact ⟨fun x => a (hO k b x),by omega⟩
structure Pend (w : World) (Oc : Nat → Prop) (st : Slots) (tm : Nat → Value) (blk : Blk) (v : SV) (u : Value) (pb : Option Nat → Option Nat) : Prop where
 base : SRel w (fun k => Oc k ∨ ∃ c,pb c = some k) st tm blk
 inj : ∀ c c' k,pb c = some k → pb c' = some k → c = c'
 out : ∀ c k,pb c = some k → ¬ Oc k ∧ k < w.heap.size
 rep : SVRep w (blk.off fun k => Oc k ∨ ∃ c,pb c = some k) st tm v u pb
theorem Pend.put {w : World} {Oc : Nat → Prop} {st : Slots} {tm : Nat → Value} {blk : Blk} {v : SV} {u : Value} {pb : Option Nat → Option Nat} (h : Pend w Oc st tm blk v u pb) (d : Nat) :
 SRel w Oc (st.put d v) (updN tm d u) (updN blk d pb):=by
 refine SRel.edit h.base ⟨d,v,.all⟩ u pb (Nat.le_refl _) (fun _ _ _ _ => rfl) (fun k _ x => .inl (.inl x)) (fun c k hk => ⟨.inr (.inl (.inr ⟨c,hk⟩)),h.out c k hk⟩) h.inj ?_ ?_
 · refine h.rep.move ⟨fun k hk hno => ⟨rfl,?_⟩,fun _ _ => rfl⟩ ?_
   · rintro (⟨t,c,hh⟩ | hh)
     · by_cases ht : t = d
       · subst ht;rw [updN_same] at hh;exact hno (.inr (.inr ⟨c,hh⟩))
       · rw [updN_ne _ _ ht] at hh;exact hno (.inl ⟨t,c,hh⟩)
     · exact hno (.inr (.inl hh))
   · intro s hs o ho
     by_cases hsd : s = d
     · subst hsd
       rw [get_edit] at ho
       simp only [if_true] at ho
       rw [ho] at hs;simp [SV.root] at hs
     · rw [get_edit,if_neg hsd] at ho
       exact ⟨(cut_home _ _ _ _ _).1 ho,updN_ne _ _ hsd,fun _ _ _ _ _ _ => rfl⟩
 · intro t ht hroot _
   rw [get_on] at hroot
   exact absurd hroot (cutAll_root _ _)
theorem Pend.drop {w : World} {Oc : Nat → Prop} {st : Slots} {tm : Nat → Value} {blk : Blk} {v : SV} {u : Value} {pb : Option Nat → Option Nat} (h : Pend w Oc st tm blk v u pb) :
 SRel w Oc st tm blk:=h.base.world (Nat.le_refl _) (fun _ _ _ => rfl) (fun _ _ x => .inl x)
theorem ORep.flat_inv {w : World} {O : Nat → Prop} {f : FV} {u : Value} {m : Option Nat} {β : Nat → Option Nat} (h : ORep w O (.flat f) u m β) : FRep w O f u m ∧ ∀ j,β j = none:=by
 cases h with
 | flat f u b h => exact ⟨h,fun _ => rfl⟩
theorem FRep.val_inv {w : World} {O : Nat → Prop} {v : PV} {u : Value} {m : Option Nat} (h : FRep w O (.val v) u m) : RepV w O v u ∧ m = none:=by
 cases h with
 | val v u h => exact ⟨h,rfl⟩
theorem FRep.nil_inv {w : World} {O : Nat → Prop} {sh : Option Nat} {u : Value} {m : Option Nat} (h : FRep w O (.nil sh) u m) : u = .slice none 0 0 ∧ m = none:=by
 cases h with
 | nil sh => exact ⟨rfl,rfl⟩
theorem SRel.weaken {w : World} {Oc : Nat → Prop} {st st' : Slots} {tm : Nat → Value} {blk : Blk} (h : SRel w Oc st tm blk) (hd : ∀ t,st'.get t = st.get t ∨ st'.get t = .dead) :
 ∃ blk',SRel w Oc st' tm blk' ∧ (∀ t c k,blk' t c = some k → blk t c = some k) ∧ ∀ t,st'.get t ≠ .dead → blk' t = blk t:=by
 classical
 have hsub : ∀ t c k,(if st'.get t = .dead then fun _ => none else blk t) c = some k → st'.get t ≠ .dead ∧ blk t c = some k:=by
  intro t c k hk
  split at hk
  · cases hk
  · rename_i hne;exact ⟨hne,hk⟩
 refine ⟨fun t => if st'.get t = .dead then fun _ => none else blk t,⟨fun t => ?_,?_,?_⟩,fun t c k hk => (hsub t c k hk).2,fun t ht => if_neg ht⟩
 · by_cases ht : st'.get t = .dead
   · rw [ht]
     intro c
     rw [if_pos rfl]
   · rw [if_neg ht]
     have he:=(hd t).resolve_right ht
     rw [he]
     refine (h.rep t).move ⟨fun k hk hno => ⟨rfl,?_⟩,fun _ _ => rfl⟩ ?_
     · rintro (⟨t2,c,q⟩ | q)
       · exact hno (.inl ⟨t2,c,(hsub t2 c k q).2⟩)
       · exact hno (.inr q)
     · intro s _ o ho
       rcases hd s with q | q
       · exact ⟨q ▸ ho,rfl,fun _ _ _ _ _ _ => rfl⟩
       · rw [q] at ho;cases ho
 · intro t c t' c' k h1 h2
   exact h.inj _ _ _ _ _ (hsub _ _ _ h1).2 (hsub _ _ _ h2).2
 · intro t c k h1
   exact h.out _ _ _ (hsub _ _ _ h1).2
theorem SRel.same {w : World} {Oc : Nat → Prop} {st st' : Slots} {tm : Nat → Value} {blk : Blk} (h : SRel w Oc st tm blk) (hd : ∀ t,st'.get t = st.get t) : SRel w Oc st' tm blk:=by
 refine ⟨fun t => ?_,h.inj,h.out⟩
 rw [hd t]
 exact (h.rep t).move ⟨fun k _ hno => ⟨rfl,hno⟩,fun _ _ => rfl⟩ fun s _ o ho => ⟨by rw [← hd s];exact ho,rfl,fun _ _ _ _ _ _ => rfl⟩
structure ArgRep (w : World) (O : Nat → Prop) (st : Slots) (tm : Nat → Value) (a : Arg) (u : Value) : Prop where
 rep : SVRep w O st tm a.sv u (fun _ => none)
 root : ∀ s o,a.rt = some (s,o) → st.get s = .home o ∧ a.sv.root = some s
 some_ : ∀ s,a.sv.root = some s → ∃ o,a.rt = some (s,o)
theorem rooted_eq {st : Slots} {v : SV} {r : Nat} {a : Arg} (h : rooted st v r = some a) : ∃ o,st.get r = .home o ∧ a = ⟨v,some (r,o)⟩:=by
 unfold rooted at h
 split at h
 · rename_i o ho;exact ⟨o,ho,(Option.some.inj h).symm⟩
 · cases h
theorem rooted_rep {w : World} {O : Nat → Prop} {st : Slots} {tm : Nat → Value} {v : SV} {r : Nat} {a : Arg} {u : Value} {b : Option Nat → Option Nat} (hr : v.root = some r)
 (h : rooted st v r = some a) (hv : SVRep w O st tm v u b) (hb : ∀ c,b c = none) : ArgRep w O st tm a u:=by
 obtain ⟨o,ho,rfl⟩:=rooted_eq h
 have e : b = fun _ => none:=funext hb
 subst e
 exact ⟨hv,fun s o' h' => by cases h';exact ⟨ho,hr⟩,fun s hs => by rw [hr] at hs;cases hs;exact ⟨o,rfl⟩⟩
theorem pvOfConst_rep {w : World} {O : Nat → Prop} {v : Value} {p : PV} (h : pvOfConst v = some p) : RepV w O p v:=by
 unfold pvOfConst at h
 split at h
 · cases h;exact .bool _
 · cases h;exact .int _ _
 · cases h;exact .str _
 · cases h;exact .nilp
 · cases h;exact .nilfn
 · rename_i vs
   split at h
   · rename_i he
     cases h
     have : vs = #[]:=by cases vs;simp_all
     subst this
     exact .undef
   · cases h
 · cases h
theorem ovOfConst_rep {w : World} {O : Nat → Prop} {P : Program} {t : TypeId} {v : Value} {o : OV} (h : ovOfConst P t v = some o) : ORep w O o v none (fun _ => none):=by
 unfold ovOfConst at h
 split at h
 · unfold emptyRow at h
   split at h
   · split at h
     · cases h;exact .nestE none
     · rw [Option.map_eq_some_iff] at h
       obtain ⟨sh,_,rfl⟩:=h
       exact .flat _ _ _ (.ownE sh none)
   · cases h
 · rw [Option.map_eq_some_iff] at h
   obtain ⟨p,hp,rfl⟩:=h
   exact .flat _ _ _ (.val p v (pvOfConst_rep hp))
theorem fetch_rep {w : World} {Oc : Nat → Prop} {st : Slots} {tm : Nat → Value} {blk : Blk} (h : SRel w Oc st tm blk) {P : Program} {t : TypeId} {x : Operand} {a : Arg} (hf : fetch P st t x = some a)
 (act : Act) (hact : ∀ t,act.tmps.getD t Go.undef = tm t) : ArgRep w (blk.off Oc) st tm a (act.eval x):=by
 unfold fetch at hf
 split at hf
 · rename_i v
   split at hf
   · rename_i o ho
     cases hf
     exact ⟨ovOfConst_rep ho,fun s o' h' => (by cases h'),fun s hs => (by simp [SV.root] at hs)⟩
   · cases hf
 · rename_i f
   cases hf
   refine ⟨?_,fun s o' h' => (by cases h'),fun s hs => (by simp [SV.root] at hs)⟩
   exact .flat _ _ _ (.val _ _ (.fn (.func f) [] [] #[] #[] (fun _ => Go.undef) (fun _ => Go.undef) rfl rfl (by simp) (by simp) (by simp) (by simp)))
 · cases hf
 · rename_i s
   have hrep:=h.rep s
   have hev : act.eval (.tmp s) = tm s:=hact s
   rw [hev]
   split at hf
   · cases hf
   · rename_i v hg
     cases hf
     rw [hg] at hrep
     refine ⟨?_,fun s o' h' => (by cases h'),fun s hs => (by simp [SV.root] at hs)⟩
     exact .flat _ _ _ (.val _ _ (ORep.flat_inv hrep).1.val_inv.1)
   · rename_i sh hg
     cases hf
     rw [hg] at hrep
     refine ⟨?_,fun s o' h' => (by cases h'),fun s hs => (by simp [SV.root] at hs)⟩
     rw [(ORep.flat_inv hrep).1.nil_inv.1]
     exact .flat _ _ _ (.nil _)
   · rename_i o hn1 hn2 hg
     cases hf
     refine ⟨⟨fun _ => rfl,fun o' ho' => ⟨⟨o',rfl⟩,.top _ _⟩⟩,fun s' o' h' => (by cases h';exact ⟨hg,rfl⟩),fun s' hs => (by cases hs;exact ⟨o,rfl⟩)⟩
   · rename_i sh v hg
     cases hf
     rw [hg] at hrep
     exact ⟨⟨fun _ => rfl,hrep.2⟩,fun s o' h' => (by cases h'),fun s hs => (by simp [SV.root] at hs)⟩
   · rename_i r c hg
     rw [hg] at hrep
     exact rooted_rep rfl hf hrep hrep.1
   · rename_i r c hg
     rw [hg] at hrep
     exact rooted_rep rfl hf hrep hrep.1
   · rename_i r c hg
     rw [hg] at hrep
     exact rooted_rep rfl hf hrep hrep.1
   · rename_i r c i off hg
     rw [hg] at hrep
     exact rooted_rep rfl hf hrep hrep.1
   · rename_i r c i off hg
     rw [hg] at hrep
     exact rooted_rep rfl hf hrep hrep.1
   · rename_i r c i hg
     rw [hg] at hrep
     exact rooted_rep rfl hf hrep hrep.1
end Go.Ev

namespace Go.Ev
theorem ORep.none_ {w : World} {O : Nat → Prop} {k : CK} {cs : List FV} {v : Value} {m : Option Nat} {β : Nat → Option Nat} (h : ORep w O (.cont k cs) v m β) : ∀ j,cs.length ≤ j → β j = none:=by
 cases h with
 | agg _ _ _ _ _ hh => exact hh.none_
 | tup _ _ _ _ hh => exact hh.none_
 | box _ _ _ _ _ _ _ _ _ _ hh => exact hh.none_
 | nestE => exact fun _ _ => rfl
 | entsE => exact fun _ _ => rfl
 | ents _ _ _ _ _ _ _ _ _ _ _ _ _ _ _ hh => exact hh.none_
 | nest _ _ _ _ _ _ _ _ _ _ _ _ _ hh => exact hh.none_
theorem ORep.cellAt {w : World} {O : Nat → Prop} {k : CK} {cs : List FV} {v : Value} {m : Option Nat} {β : Nat → Option Nat} (h : ORep w O (.cont k cs) v m β) {j : Nat} {f : FV} (hj : cs[j]? = some f) :
 ∃ z,PathV w v (.cont k cs) (some j) z ∧ FRep w O f z (β j):=by
 cases h with
 | agg _ us _ _ _ hh => obtain ⟨z,h1,h2⟩:=hh.rep j f hj;exact ⟨z,.agg _ _ _ _ h1,h2⟩
 | tup _ us _ _ hh => obtain ⟨z,h1,h2⟩:=hh.rep j f hj;exact ⟨z,.tup _ _ _ _ h1,h2⟩
 | box _ b cur e fr _ hb _ _ _ hh => obtain ⟨z,h1,h2⟩:=hh.rep j f hj;exact ⟨z,.box _ _ _ _ (by simpa [World.cell?,hb] using h1),h2⟩
 | nestE => simp at hj
 | entsE => simp at hj
 | ents _ n b c cur e fr _ hb _ _ _ _ _ _ hh => obtain ⟨z,h1,h2⟩:=hh.rep j f hj;exact ⟨z,.ents _ _ _ _ _ _ (by simpa [World.cell?,hb] using h1),h2⟩
 | nest _ b c cur e fr _ hb _ _ _ _ _ hh => obtain ⟨z,h1,h2⟩:=hh.rep j f hj;exact ⟨z,.nest _ _ _ _ _ _ (by simpa [World.cell?,hb] using h1),h2⟩
theorem PathV.uniq {w : World} {v : Value} {o : OV} {c : Option Nat} {u z : Value} (h1 : PathV w v o c u) (h2 : PathV w v o c z) : u = z:=by
 cases h1 with
 | top => exact h2.top_eq.symm
 | agg _ _ _ _ h1 => cases h2 with | agg _ _ _ _ h2 => rw [h1] at h2;exact Option.some.inj h2
 | tup _ _ _ _ h1 => cases h2 with | tup _ _ _ _ h2 => rw [h1] at h2;exact Option.some.inj h2
 | box _ _ _ _ h1 => cases h2 with | box _ _ _ _ h2 => rw [h1] at h2;exact Option.some.inj h2
 | nest _ _ _ _ _ _ h1 => cases h2 with | nest _ _ _ _ _ _ h2 => rw [h1] at h2;exact Option.some.inj h2
 | ents _ _ _ _ _ _ h1 => cases h2 with | ents _ _ _ _ _ _ h2 => rw [h1] at h2;exact Option.some.inj h2
theorem ORep.recell {w : World} {O O' : Nat → Prop} {k : CK} {cs cs' : List FV} {v : Value} {m : Option Nat} {β β' : Nat → Option Nat} (h : ORep w O (.cont k cs) v m β)
 (hl : cs'.length = cs.length) (hk : ∀ (j : Nat) (f : FV),cs'[j]? = some f → (∀ f,cs[j]? = some f → k ≠ .tup → f.cellOk) → k ≠ .tup → f.cellOk)
 (hc : ∀ (j : Nat) (f f' : FV) (u : Value),cs[j]? = some f → cs'[j]? = some f' → FRep w O f u (β j) → FRep w O' f' u (β' j))
 (hw : (k = .nest ∨ k = .ents) → ∀ (j : Nat) (f : FV),cs'[j]? = some f → (∀ f,cs[j]? = some f → f.whole = true) → f.whole = true)
 (hn : ∀ j,cs.length ≤ j → β' j = none) : ORep w O' (.cont k cs') v m β':=by
 have cells : ∀ get,Cells w O cs get β → Cells w O' cs' get β':=by
  intro get H
  refine ⟨fun j f hj => ?_,fun j hj => hn j (by omega)⟩
  have hlt : j < cs.length:=by rw [← hl];exact (List.getElem?_eq_some_iff.1 hj).1
  obtain ⟨u,h1,h2⟩:=H.rep j cs[j] (by simp [hlt])
  exact ⟨u,h1,hc j _ f u (by simp [hlt]) hj h2⟩
 cases h with
 | agg cs us β hl' hk' h => exact .agg cs' us β' (by omega) (fun j f hj => hk j f hj (fun f hf _ => hk' j f hf) (by simp)) (cells _ h)
 | tup cs us β hl' h => exact .tup cs' us β' (by omega) (cells _ h)
 | box cs b cur e fr β hb ht hl' hk' h => exact .box cs' b cur e fr β' hb ht (by omega) (fun j f hj => hk j f hj (fun f hf _ => hk' j f hf) (by simp)) (cells _ h)
 | nestE A =>
   have : cs' = []:=by simpa using hl
   subst this
   have : β' = fun _ => none:=funext fun j => hn j (by simp)
   subst this
   exact .nestE A
 | entsE A =>
   have : cs' = []:=by simpa using hl
   subst this
   have : β' = fun _ => none:=funext fun j => hn j (by simp)
   subst this
   exact .entsE A
 | ents cs n b c cur e fr β hb ht hl' hn' hc' hk' hg' h => exact .ents cs' n b c cur e fr β' hb ht hl' (by omega) hc' (fun j f hj => hk j f hj (fun f hf _ => hk' j f hf) (by simp)) (fun j f hj => hw (.inr rfl) j f hj (fun f hf => hg' j f hf)) (cells _ h)
 | nest cs b c cur e fr β hb ht hl' hc' hk' hg' h =>
   rw [← hl]
   exact .nest cs' b c cur e fr β' hb ht hl' (by omega) (fun j f hj => hk j f hj (fun f hf _ => hk' j f hf) (by simp)) (fun j f hj => hw (.inl rfl) j f hj (fun f hf => hg' j f hf)) (cells _ h)
theorem alias_home {w w' : World} {O O' : Nat → Prop} {st st' : Slots} {tm tm' : Nat → Value} {v : SV} {u : Value} {b : Option Nat → Option Nat} {s : Nat} {k : CK} {cs cs' : List FV}
 (h : SVRep w O st tm v u b) (hroot : v.root = some s) (hg : st.get s = .home (.cont k cs)) (hg' : st'.get s = .home (.cont k cs')) (ht : tm' s = tm s) (hl : cs'.length = cs.length)
 (hc : ∀ lo n,v.rootc = some (s,lo,n) → ∀ q,lo ≤ q → q < lo + n → cs'[q]? = cs[q]? ∧ ∀ b,blockOf (tm s) = some b → w'.cell? ⟨b,q,none⟩ = w.cell? ⟨b,q,none⟩) :
 SVRep w' O' st' tm' v u b:=by
 have path : ∀ q y,(∀ b,blockOf (tm s) = some b → w'.cell? ⟨b,q,none⟩ = w.cell? ⟨b,q,none⟩) → PathV w (tm s) (.cont k cs) (some q) y → PathV w' (tm s) (.cont k cs') (some q) y:=by
  intro q y hq hp
  generalize tm s = z at hp hq
  cases hp with
  | agg us cs _ u h => exact .agg us _ _ _ h
  | tup us cs _ u h => exact .tup us _ _ _ h
  | box b cs _ u h => exact .box b _ _ _ (by rw [hq b rfl];exact h)
  | nest b n c cs _ u h => exact .nest b n c _ _ _ (by rw [hq b rfl];exact h)
  | ents b n c cs _ u h => exact .ents b n c _ _ _ (by rw [hq b rfl];exact h)
 cases v with
 | dead => simp [SV.root] at hroot
 | home o => simp [SV.root] at hroot
 | fadr sh p => simp [SV.root] at hroot
 | ref r c =>
   obtain rfl : r = s:=by simpa [SV.root] using hroot
   refine ⟨h.1,fun o ho => ?_⟩
   rw [hg'] at ho
   cases ho
   obtain ⟨⟨x,hx⟩,hp⟩:=h.2 _ hg
   rw [ht]
   cases c with
   | none => rw [hp.top_eq];exact ⟨⟨_,rfl⟩,.top _ _⟩
   | some j =>
     obtain ⟨h1,h2⟩:=hc j 1 rfl j (Nat.le_refl _) (by omega)
     refine ⟨⟨x,?_⟩,path j _ h2 hp⟩
     simp only [OV.at] at hx ⊢
     rw [h1];exact hx
 | adr r j =>
   obtain rfl : r = s:=by simpa [SV.root] using hroot
   refine ⟨h.1,fun o ho => ?_⟩
   rw [ht]
   exact h.2 _ hg
 | adrx r j =>
   obtain rfl : r = s:=by simpa [SV.root] using hroot
   refine ⟨h.1,fun o ho => ?_⟩
   rw [ht]
   exact h.2 _ hg
 | adre r c i off =>
   obtain rfl : r = s:=by simpa [SV.root] using hroot
   refine ⟨h.1,fun o sh xs sp ho hx => ?_⟩
   rw [hg'] at ho
   cases ho
   rw [ht]
   cases c with
   | none => simp [OV.at] at hx
   | some j =>
     obtain ⟨h1,h2⟩:=hc j 1 rfl j (Nat.le_refl _) (by omega)
     simp only [OV.at] at hx
     rw [h1] at hx
     obtain ⟨x,b',hp,hb⟩:=h.2 _ sh xs sp hg (by simpa only [OV.at] using hx)
     exact ⟨x,b',path j _ h2 hp,hb⟩
 | view r c l h' =>
   obtain rfl : r = s:=by simpa [SV.root] using hroot
   refine ⟨h.1,fun o sh xs sp ho hx => ?_⟩
   rw [hg'] at ho
   cases ho
   rw [ht]
   cases c with
   | none => simp [OV.at] at hx
   | some j =>
     obtain ⟨h1,h2⟩:=hc j 1 rfl j (Nat.le_refl _) (by omega)
     simp only [OV.at] at hx
     rw [h1] at hx
     obtain ⟨a1,a2,x,hp,hb⟩:=h.2 _ sh xs sp hg (by simpa only [OV.at] using hx)
     exact ⟨a1,a2,x,path j _ h2 hp,hb⟩
 | rng r j n =>
   obtain rfl : r = s:=by simpa [SV.root] using hroot
   refine ⟨h.1,fun o ho => ?_⟩
   rw [hg'] at ho
   cases ho
   obtain ⟨⟨k2,cs2,he,hl2,hk2⟩,us,h1,h2,h3⟩:=h.2 _ hg
   cases he
   refine ⟨⟨k,cs',rfl,by omega,hk2⟩,us,h1,h2,fun q hq => ?_⟩
   obtain ⟨x,a,p⟩:=h3 q hq
   rw [ht]
   exact ⟨x,a,path (j + q) x (hc j n rfl (j + q) (by omega) (by omega)).2 p⟩
def without (b : Option Nat → Option Nat) (p : Nat → Bool) : Option Nat → Option Nat:=fun c => match c with
 | none => b none
 | some j => match p j with
   | true => none
   | false => b (some j)
theorem cutCells_keeps {s lo n : Nat} {v : SV} (h : (SV.cutCells s lo n v).root = some s) : SV.cutCells s lo n v = v ∧ v.root = some s ∧
 ∀ c m,v.rootc = some (s,c,m) → ¬ (lo < c + m ∧ c < lo + n):=by
 unfold SV.cutCells at h ⊢
 cases hr : v.rootc with
 | none => rw [hr] at h;exact ⟨rfl,h,by simp⟩
 | some r =>
   obtain ⟨r,c,m⟩:=r
   rw [hr] at h
   dsimp only at h ⊢
   split at h
   · simp [SV.root] at h
   · rename_i hb
     refine ⟨rfl,h,fun c' m' he => ?_⟩
     cases he
     rintro ⟨h1,h2⟩
     simp only [Nat.beq_refl,Bool.true_and,Bool.and_eq_false_iff] at hb
     rcases hb with hb | hb
     · rw [show Nat.blt lo (c + m) = true from by rw [Nat.blt_eq];exact h1] at hb;cases hb
     · rw [show Nat.blt c (lo + n) = true from by rw [Nat.blt_eq];exact h2] at hb;cases hb
theorem SRel.recell {w : World} {Oc Oc' : Nat → Prop} {st : Slots} {tm : Nat → Value} {blk : Blk} (h : SRel w Oc st tm blk) {s : Nat} {k : CK} {cs cs' : List FV} {lo n : Nat} {b' : Option Nat → Option Nat}
 (hg : st.get s = .home (.cont k cs)) (hl : cs'.length = cs.length)
 (hsame : ∀ q,¬ (lo ≤ q ∧ q < lo + n) → cs'[q]? = cs[q]? ∧ b' (some q) = blk s (some q))
 (hnone : b' none = blk s none)
 (hcell : ∀ q (f f' : FV) (u : Value),lo ≤ q → q < lo + n → cs[q]? = some f → cs'[q]? = some f' → FRep w (blk.off Oc) f u (blk s (some q)) → FRep w (Blk.off (updN blk s b') Oc') f' u (b' (some q)))
 (hok : ∀ q (f' : FV),lo ≤ q → q < lo + n → cs'[q]? = some f' → (∀ f,cs[q]? = some f → k ≠ .tup → f.cellOk) → k ≠ .tup → f'.cellOk)
 (hwh : (k = .nest ∨ k = .ents) → ∀ q (f' : FV),lo ≤ q → q < lo + n → cs'[q]? = some f' → f'.whole = true)
 (hsub : ∀ c x,b' c = some x → blk s c = some x)
 (hO : ∀ x,x < w.heap.size → Oc' x → Oc x ∨ ∃ c,blk s c = some x ∧ b' c = none) :
 SRel w Oc' ((Edit.mk s (.home (.cont k cs')) (.cells lo n)).on st) tm (updN blk s b'):=by
 have hrep:=h.rep s
 rw [hg] at hrep
 have hoff : ∀ x,x < w.heap.size → ¬ blk.off Oc x → w.heap[x]? = w.heap[x]? ∧ ¬ Blk.off (updN blk s b') Oc' x:=by
  intro x hx hno
  refine ⟨rfl,?_⟩
  rintro (⟨t,c,hh⟩ | hh)
  · by_cases ht : t = s
    · subst ht;rw [updN_same] at hh;exact hno (.inl ⟨t,c,hsub _ _ hh⟩)
    · rw [updN_ne _ _ ht] at hh;exact hno (.inl ⟨t,c,hh⟩)
  · rcases hO x hx hh with y | ⟨c,y,_⟩
    · exact hno (.inr y)
    · exact hno (.inl ⟨s,c,y⟩)
 have key:=SRel.edit (w':=w) (Oc':=Oc') h ⟨s,.home (.cont k cs'),.cells lo n⟩ (tm s) b' (Nat.le_refl _) (fun _ _ _ _ => rfl)
  (fun x hx hh => by
    rcases hO x hx hh with y | ⟨c,y,_⟩
    · exact .inl y
    · exact .inr ⟨c,y⟩)
  (fun c x hx => ⟨.inl ⟨c,hsub _ _ hx⟩,(by
    intro hh
    rcases hO x (h.out _ _ _ (hsub _ _ hx)).2 hh with y | ⟨c',y,z⟩
    · exact (h.out _ _ _ (hsub _ _ hx)).1 y
    · have:=(h.inj _ _ _ _ _ (hsub _ _ hx) y).2
      subst this
      rw [hx] at z;cases z),(h.out _ _ _ (hsub _ _ hx)).2⟩)
  (fun c c' x h1 h2 => (h.inj _ _ _ _ _ (hsub _ _ h1) (hsub _ _ h2)).2)
  (by
    show ORep _ _ _ _ _ _
    rw [hnone]
    refine ORep.recell hrep hl (fun j f hj hf hk => ?_) (fun j f f' u hj hj' hu => ?_) (fun hn j f hj hf => ?_) (fun j hj => ?_)
    · by_cases hq : lo ≤ j ∧ j < lo + n
      · exact hok j f hq.1 hq.2 hj hf hk
      · rw [(hsame j hq).1] at hj
        exact hf f hj hk
    · by_cases hq : lo ≤ j ∧ j < lo + n
      · exact hcell j f f' u hq.1 hq.2 hj hj' hu
      · rw [(hsame j hq).1,hj] at hj'
        cases hj'
        rw [(hsame j hq).2]
        exact hu.move ⟨hoff,fun _ _ => rfl⟩
    · by_cases hq : lo ≤ j ∧ j < lo + n
      · exact hwh hn j f hq.1 hq.2 hj
      · rw [(hsame j hq).1] at hj
        exact hf f hj
    · cases hb : b' (some j) with
      | none => rfl
      | some x =>
        have:=hsub _ _ hb
        have hnn : blk s (some j) = none:=hrep.none_ j hj
        rw [hnn] at this;cases this)
  (fun t ht hroot hv => by
    rw [get_on] at hroot ⊢
    dsimp only at hroot ⊢
    obtain ⟨e1,e2,e3⟩:=cutCells_keeps hroot
    rw [e1]
    refine alias_home (cs':=cs') hv e2 hg (by rw [get_edit];simp) (updN_same _ _ _) hl (fun c m hc q h1 h2 => ⟨(hsame q ?_).1,fun _ _ => rfl⟩)
    rintro ⟨h3,h4⟩
    exact e3 c m hc ⟨by omega,by omega⟩)
 rwa [updN_self] at key
theorem take_rep' {w : World} {Oc : Nat → Prop} {st : Slots} {tm : Nat → Value} {blk : Blk} (h : SRel w Oc st tm blk) {a : Arg} {u : Value} {o : OV} {es : List Edit}
 (ha : ArgRep w (blk.off Oc) st tm a u) (ho : a.ov = some o) (ht : a.take = some es) :
 ∃ blk' pb,Pend w Oc (edits es st) tm blk' (.home o) u pb ∧ (∀ t c x,blk' t c = some x → blk t c = some x) ∧ (∀ c x,pb c = some x → ∃ s c',a.sv.root = some s ∧ blk s c' = some x):=by
 obtain ⟨sv,rt⟩:=a
 cases sv with
 | home o' =>
   simp only [Arg.ov,Option.some.injEq] at ho
   simp only [Arg.take,Option.some.injEq] at ht
   subst ho;subst ht
   refine ⟨blk,fun _ => none,⟨h.world (Nat.le_refl _) (fun _ _ _ => rfl) (fun k _ x => ?_),by simp,by simp,?_⟩,fun _ _ _ x => x,by simp⟩
   · rcases x with x | ⟨_,x⟩
     · exact x
     · cases x
   · exact ha.rep.move ⟨fun k _ hno => ⟨rfl,by
      rintro (x | x | ⟨_,x⟩)
      · exact hno (.inl x)
      · exact hno (.inr x)
      · cases x⟩,fun _ _ => rfl⟩ (fun s hs => by simp [SV.root] at hs)
 | ref s c =>
   obtain ⟨o2,ho2⟩:=ha.some_ s rfl
   dsimp only at ho2
   subst ho2
   obtain ⟨hg,_⟩:=ha.root s o2 rfl
   have hrep:=h.rep s
   rw [hg] at hrep
   have hu:=(ha.rep.2 o2 hg).2
   cases c with
   | none =>
     simp only [Arg.ov,OV.at,Option.some.injEq] at ho
     simp only [Arg.take,Option.some.injEq] at ht
     subst ho;subst ht
     rw [hu.top_eq]
     have key:=SRel.edit (w':=w) (Oc':=fun k => Oc k ∨ ∃ c,blk s c = some k) h ⟨s,.dead,.all⟩ (tm s) (fun _ => none) (Nat.le_refl _) (fun _ _ _ _ => rfl) (fun k _ x => x) (by simp) (by simp)
      (fun _ => rfl) (fun t ht hroot _ => by rw [get_on] at hroot;exact absurd hroot (cutAll_root _ _))
     rw [updN_self] at key
     refine ⟨_,blk s,⟨key,fun c c' k h1 h2 => (h.inj _ _ _ _ _ h1 h2).2,fun c k hk => h.out _ _ _ hk,?_⟩,?_,fun c x hx => ⟨s,c,rfl,hx⟩⟩
     · refine SVRep.move (st:=st) (tm:=tm) hrep ⟨fun k _ hno => ⟨rfl,?_⟩,fun _ _ => rfl⟩ (fun s hs => by simp [SV.root] at hs)
       rintro (⟨t,c,x⟩ | x | ⟨c,x⟩)
       · by_cases ht : t = s
         · subst ht;rw [updN_same] at x;cases x
         · rw [updN_ne _ _ ht] at x;exact hno (.inl ⟨t,c,x⟩)
       · exact hno (.inr x)
       · exact hno (.inl ⟨s,c,x⟩)
     · intro t c x hx
       by_cases ht : t = s
       · subst ht;rw [updN_same] at hx;cases hx
       · rw [updN_ne _ _ ht] at hx;exact hx
   | some j =>
     obtain ⟨k,cs,f,rfl,hj,rfl⟩:=at_cont (show o2.at (some j) = some o from ho)
     have hlt : j < cs.length:=(List.getElem?_eq_some_iff.1 hj).1
     have hkn : ¬ (k = .nest ∨ k = .ents):=by
      rintro (rfl | rfl) <;> simp [Arg.take,setAt,one] at ht
     have ht : es = [⟨s,.home (.cont k (cs.set j .gone)),.cells j 1⟩]:=by
      cases k <;> simp_all [Arg.take,setAt,one]
     subst ht
     let b':=without (blk s) (fun q => Nat.beq q j)
     have hbj : b' (some j) = none:=by simp [b',without]
     have hbne : ∀ q,q ≠ j → b' (some q) = blk s (some q):=fun q hq => by simp [b',without,nbeq hq]
     have hsub : ∀ c x,b' c = some x → blk s c = some x:=by
      intro c x hx
      cases c with
      | none => exact hx
      | some q =>
        by_cases hq : q = j
        · subst hq;rw [hbj] at hx;cases hx
        · rwa [hbne q hq] at hx
     have key:=SRel.recell (Oc':=fun x => Oc x ∨ blk s (some j) = some x) (lo:=j) (n:=1) (cs':=cs.set j .gone) (b':=b') h hg (by simp)
      (fun q hq => ⟨by rw [List.getElem?_set_ne (by omega)],hbne q (by omega)⟩) rfl
      (fun q f f' x h1 h2 _ hf _ => by
        obtain rfl : q = j:=by omega
        rw [List.getElem?_set_self hlt] at hf
        cases hf
        rw [hbj]
        exact .gone x)
      (fun q f' h1 h2 hf _ _ => by
        obtain rfl : q = j:=by omega
        rw [List.getElem?_set_self hlt] at hf
        cases hf
        trivial)
      (fun e => absurd e hkn)
      hsub
      (fun x _ hx => by
        rcases hx with hx | hx
        · exact .inl hx
        · exact .inr ⟨some j,hx,hbj⟩)
     let pb : Option Nat → Option Nat:=fun c => match c with | none => blk s (some j) | some _ => none
     have hpb : ∀ x,(∃ c,pb c = some x) ↔ blk s (some j) = some x:=by
      intro x
      constructor
      · rintro ⟨c,hc⟩
        cases c with
        | none => exact hc
        | some q => cases hc
      · exact fun hx => ⟨none,hx⟩
     refine ⟨_,pb,⟨key.world (Nat.le_refl _) (fun _ _ _ => rfl) (fun x _ hx => by rcases hx with hx | hx;exact .inl hx;exact .inr ((hpb x).1 hx)),?_,?_,?_⟩,?_,?_⟩
     · intro c c' x h1 h2
       cases c <;> cases c' <;> simp_all [pb]
     · intro c x hx
       cases c with
       | none => exact h.out _ _ _ hx
       | some q => cases hx
     · show ORep _ _ _ _ _ _
       obtain ⟨z,hz,hf⟩:=hrep.cellAt hj
       have huz : u = z:=hu.uniq hz
       subst huz
       refine .flat f u (blk s (some j)) (hf.move ⟨fun x _ hno => ⟨rfl,?_⟩,fun _ _ => rfl⟩)
       rintro (⟨t,c,hx⟩ | hx | hx)
       · by_cases ht : t = s
         · subst ht;rw [updN_same] at hx;exact hno (.inl ⟨t,c,hsub _ _ hx⟩)
         · rw [updN_ne _ _ ht] at hx;exact hno (.inl ⟨t,c,hx⟩)
       · exact hno (.inr hx)
       · exact hno (.inl ⟨s,some j,(hpb x).1 hx⟩)
     · intro t c x hx
       by_cases ht : t = s
       · subst ht;rw [updN_same] at hx;exact hsub _ _ hx
       · rw [updN_ne _ _ ht] at hx;exact hx
     · intro c x hx
       exact ⟨s,some j,rfl,(hpb x).1 ⟨c,hx⟩⟩
 | _ => simp [Arg.ov] at ho
theorem take_rep {w : World} {Oc : Nat → Prop} {st : Slots} {tm : Nat → Value} {blk : Blk} (h : SRel w Oc st tm blk) {a : Arg} {u : Value} {o : OV} {es : List Edit}
 (ha : ArgRep w (blk.off Oc) st tm a u) (ho : a.ov = some o) (ht : a.take = some es) :
 ∃ blk' pb,Pend w Oc (edits es st) tm blk' (.home o) u pb ∧ (∀ t c x,blk' t c = some x → blk t c = some x) ∧ (∀ c x,pb c = some x → blk.has x):=by
 obtain ⟨blk',pb,h1,h2,h3⟩:=take_rep' h ha ho ht
 exact ⟨blk',pb,h1,h2,fun c x hx => let ⟨s,c',_,q⟩:=h3 c x hx;⟨s,c',q⟩⟩
end Go.Ev

