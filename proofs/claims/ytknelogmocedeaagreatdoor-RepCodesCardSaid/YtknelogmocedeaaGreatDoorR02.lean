/- The walk without memory: states, what each operation of a text does to one, what a piece of code does. Definitions alone; whatever program. -/
import Derived.Test.YtknelogmocedeaaGreatDoorR01
import Derived.Orders
namespace Go.Proofs.YtknelogmocedeaaGreatDoor
open Go.RowKit
set_option linter.unusedVariables false
inductive Sb where
 | pre (m:Nat)
 | ext (e:Nat) (xs:List (List V))
 | el (e:Nat) (xs:List (List V))
 | ag (e:Nat) (l:List V) (xs:List (List V)) (r:List V)
inductive T where
 | un
 | v (x:V)
 | own (k e:Nat) (xs:List (List V))
 | ptr (i o:Nat)
 | ro (cs:List V)
 | fn (f:FuncId) (caps:List T)
 | tup (l:List T)
 | sub (k:Nat) (m:Sb)
def lk{β:Type}(n:Nat):List (Nat×β)→Option β
 | []=>none
 | p::r=>match Nat.beq n p.1 with
  | true=>some p.2
  | false=>lk n r
structure Tab where
 fld:List (Nat×List (Nat×Nat×Bool))
 siz:List (Nat×(Nat×Bool))
 elt:List (Nat×Nat)
 zer:List (Nat×List V)
 str:List (Nat×Unit)
 ints:List (Nat×IntKind)
 con:List (Nat×Bool)
 boo:List (Nat×Unit)
 ptrf:List (Nat×Unit)
 eqs:List (Nat×List Bool)
 mps:List (Nat×(Option IntKind×V))
 sub:Bool:=false
 elm:Bool:=false
 nzb:Bool:=false
 nwf:List Nat:=[]
structure St where
 n:Nat
 env:List (Nat×T)
 bs:List (Nat×List T)
 lv:List (Nat×Option Nat)
def tget(env:List (Nat×T))(t:Nat):T:=match lk t env with
 | some x=>x
 | none=>.un
def constV:Value→Option V
 | .int k n=>some (.int k n)
 | .bool b=>some (.bool b)
 | .string s=>some (.str s)
 | .slice none 0 0=>some .nils
 | .nilIface=>some .nili
 | _=>none
def constVs:List Value→Option (List V)
 | []=>some []
 | v::r=>match constV v with
  | some x=>match constVs r with
   | some xs=>some (x::xs)
   | none=>none
  | none=>none
def constT:Value→T
 | .int k n=>.v (.int k n)
 | .bool b=>.v (.bool b)
 | .string s=>.v (.str s)
 | .slice none 0 0=>.v .nils
 | .nilIface=>.v .nili
 | .agg cs=>match constVs cs.toList with
  | some l=>.v (.agg l)
  | none=>.un
 | _=>.un
def St.ev (st:St):Operand→T
 | .tmp t=>tget st.env t
 | .const v=>constT v
 | .func f=>.fn f []
 | .global _=>.un
def T.toV:T→Option V
 | .v x=>some x
 | .own _ _ xs=>some (.sl xs)
 | _=>none
def St.put:St→Option Nat→T→St
 | ⟨n,env,bs,lv⟩,d,t=>match d with
  | none=>⟨n,env,bs,lv⟩
  | some d=>match Nat.blt d n with
   | true=>⟨n,(d,t)::env,bs,lv⟩
   | false=>⟨n,env,bs,lv⟩
def frc1(x:V)(k:V→Prop):Prop:=match x with
 | .int q n=>k (.int q n)
 | .bool b=>k (.bool b)
 | .str s=>k (.str s)
 | .agg l=>k (.agg l)
 | .sl xs=>k (.sl xs)
 | .nils=>k .nils
 | .nili=>k .nili
 | .ifc t x=>k (.ifc t x)
 | .raw v=>k (.raw v)
 | .mp ks vs=>k (.mp ks vs)
def frcVs:List V→(List V→Prop)→Prop
 | [],k=>k []
 | x::r,k=>frc1 x fun x'=>frcVs r fun r'=>k (x'::r')
def frcV(x:V)(k:V→Prop):Prop:=match x with
 | .int q n=>k (.int q n)
 | .bool b=>k (.bool b)
 | .str s=>k (.str s)
 | .agg l=>frcVs l fun l'=>k (.agg l')
 | .sl xs=>k (.sl xs)
 | .nils=>k .nils
 | .nili=>k .nili
 | .ifc t x=>k (.ifc t x)
 | .raw v=>k (.raw v)
 | .mp ks vs=>k (.mp ks vs)
def frcT0(t:T)(k:T→Prop):Prop:=match t with
 | .un=>k .un
 | .v x=>k (.v x)
 | .own a b xs=>k (.own a b xs)
 | .ptr i o=>k (.ptr i o)
 | .ro cs=>k (.ro cs)
 | .fn f l=>k (.fn f l)
 | .tup l=>k (.tup l)
 | .sub a b=>k (.sub a b)
def frcTs:List T→(List T→Prop)→Prop
 | [],k=>k []
 | t::r,k=>frcT0 t fun t'=>frcTs r fun r'=>k (t'::r')
def frcT(t:T)(k:T→Prop):Prop:=match t with
 | .un=>k .un
 | .v x=>frcV x fun x'=>k (.v x')
 | .own a b xs=>k (.own a b xs)
 | .ptr i o=>k (.ptr i o)
 | .ro cs=>frcVs cs fun cs'=>k (.ro cs')
 | .fn f l=>frcTs l fun l'=>k (.fn f l')
 | .tup l=>k (.tup l)
 | .sub a b=>k (.sub a b)
def frcSt(st:St)(k:St→Prop):Prop:=match st with
 | ⟨n,env,bs,lv⟩=>k ⟨n,env,bs,lv⟩
def frcE:List (Nat×T)→(List (Nat×T)→Prop)→Prop
 | [],k=>k []
 | p::r,k=>frcT0 p.2 fun t=>frcE r fun r'=>k ((p.1,t)::r')
def frcB:List (Nat×List T)→(List (Nat×List T)→Prop)→Prop
 | [],k=>k []
 | p::r,k=>frcTs p.2 fun l=>frcB r fun r'=>k ((p.1,l)::r')
def frcAll(st:St)(k:St→Prop):Prop:=match st with
 | ⟨n,env,bs,lv⟩=>frcE env fun env'=>frcB bs fun bs'=>k ⟨n,env',bs',lv⟩
theorem frc1_eq(x:V)(k:V→Prop):frc1 x k=k x:=by cases x <;> rfl
theorem frcVs_eq:∀(l:List V) (k:List V→Prop),frcVs l k=k l
 | [],_=>rfl
 | x::r,k=>by rw[frcVs,frc1_eq,frcVs_eq r]
theorem frcV_eq(x:V)(k:V→Prop):frcV x k=k x:=by
 cases x with
 | agg l=>exact frcVs_eq l (fun l'=>k (.agg l'))
 | _=>rfl
theorem frcT0_eq(t:T)(k:T→Prop):frcT0 t k=k t:=by cases t <;> rfl
theorem frcTs_eq:∀(l:List T) (k:List T→Prop),frcTs l k=k l
 | [],_=>rfl
 | x::r,k=>by rw[frcTs,frcT0_eq,frcTs_eq r]
theorem frcT_eq(t:T)(k:T→Prop):frcT t k=k t:=by
 cases t with
 | v x=>exact frcV_eq x (fun x'=>k (.v x'))
 | ro cs=>exact frcVs_eq cs (fun l'=>k (.ro l'))
 | fn f l=>exact frcTs_eq l (fun l'=>k (.fn f l'))
 | _=>rfl
theorem frcSt_eq(st:St)(k:St→Prop):frcSt st k=k st:=rfl
theorem frcE_eq:∀(l:List (Nat×T)) (k:List (Nat×T)→Prop),frcE l k=k l
 | [],_=>rfl
 | x::r,k=>by rw[frcE,frcT0_eq,frcE_eq r]
theorem frcB_eq:∀(l:List (Nat×List T)) (k:List (Nat×List T)→Prop),frcB l k=k l
 | [],_=>rfl
 | x::r,k=>by rw[frcB,frcTs_eq,frcB_eq r]
theorem frcAll_eq(st:St)(k:St→Prop):frcAll st k=k st:=by
 obtain⟨n,env,bs,lv⟩:=st
 show(frcE env fun env'=>frcB bs fun bs'=>k ⟨n,env',bs',lv⟩)=_
 rw[frcE_eq,frcB_eq]
mutual
def T.hasP (d:Nat):T→Bool
 | .ptr i _=>Nat.beq i d
 | .fn _ caps=>T.hasPs d caps
 | .tup l=>T.hasPs d l
 | _=>false
def T.hasPs (d:Nat):List T→Bool
 | []=>false
 | t::r=>t.hasP d||T.hasPs d r
end
mutual
def T.hasK (d:Nat):T→Bool
 | .own k _ _=>Nat.beq k d
 | .fn _ caps=>T.hasKs d caps
 | .tup l=>T.hasKs d l
 | .sub k _=>Nat.beq k d
 | _=>false
def T.hasKs (d:Nat):List T→Bool
 | []=>false
 | t::r=>t.hasK d||T.hasKs d r
end
def scrP(d:Nat)(t:T):T:=match t.hasP d with
 | true=>.un
 | false=>t
def scrK(d:Nat)(t:T):T:=match t with
 | .own k _ xs=>match Nat.beq k d with
  | true=>.v (.sl xs)
  | false=>t
 | t=>match t.hasK d with
  | true=>.un
  | false=>t
def scrEnv(f:T→T):List (Nat×T)→List (Nat×T)
 | []=>[]
 | p::r=>(p.1,f p.2)::scrEnv f r
def scrBs(f:T→T):List (Nat×List T)→List (Nat×List T)
 | []=>[]
 | p::r=>(p.1,p.2.map f)::scrBs f r
def St.alloc:St→Nat→List T→St
 | ⟨n,env,bs,lv⟩,d,cs=>⟨n,scrEnv (scrP d) env,(d,cs.map (scrP d))::scrBs (scrP d) bs,lv⟩
def St.row:St→Nat→Nat→St
 | ⟨n,env,bs,lv⟩,d,e=>⟨n,scrEnv (scrK d) env,scrBs (scrK d) bs,(d,some e)::lv⟩
def St.kill:St→Nat→St
 | ⟨n,env,bs,lv⟩,k=>⟨n,scrEnv (scrK k) env,scrBs (scrK k) bs,(k,none)::lv⟩
def St.bset:St→Nat→List T→St
 | ⟨n,env,bs,lv⟩,i,cs=>⟨n,env,(i,cs)::bs,lv⟩
def lget(lv:List (Nat×Option Nat))(k:Nat):Option Nat:=match lk k lv with
 | some (some e)=>some e
 | _=>none
def toVs:List T→Option (List V)
 | []=>some []
 | t::r=>match t.toV with
  | some x=>match toVs r with
   | some xs=>some (x::xs)
   | none=>none
  | none=>none
def T.cellsT:T→Option (List T)
 | .v (.agg l)=>some (l.map T.v)
 | .v (.raw u)=>match u.oneCell' with
  | true=>some [.v (.raw u)]
  | false=>none
 | .v x=>some [.v x]
 | .own k e xs=>some [.own k e xs]
 | .ptr i o=>some [.ptr i o]
 | .ro cs=>some [.ro cs]
 | .fn f caps=>some [.fn f caps]
 | .sub k (.ag e l xs r)=>some (l.map T.v++ .own k e xs::r.map T.v)
 | .sub k m=>some [.sub k m]
 | _=>none
def V.part:V→Bool
 | .raw v=>v.oneCell'
 | _=>true
def fillV(fs:List (Nat×Nat×Bool))(z:List V):List (Nat×Option V)→Option (List V)
 | []=>some z
 | p :: r => match p.2 with
  | some x=>match fs[p.1]? with
   | some q=>match Nat.beq x.cells.length q.2.1 with
    | true=>match Nat.ble (q.1+q.2.1) z.length&&x.part with
     | true=>fillV fs (z.take q.1++x.cells++z.drop (q.1+q.2.1)) r
     | false=>none
    | false=>none
   | none=>none
  | none=>none
def elemsV(m:Nat):Nat→List (Nat×Option V)→Option (List (List V))
 | _,[]=>some []
 | i,p::r=>match Nat.beq p.1 i with
  | true=>match p.2 with
   | some x=>match Nat.beq x.cells.length m&&x.part with
    | true=>match elemsV m (i+1) r with
     | some xs=>some (x.cells::xs)
     | none=>none
    | false=>none
   | none=>none
  | false=>none
def flatV:List Bool→List V→Bool
 | [],[]=>true
 | true::ks,.str _::xs=>flatV ks xs
 | false::ks,.bool _::xs=>flatV ks xs
 | _,_=>false
def bytesV:List (List V)→Option (List UInt8)
 | []=>some []
 | [.int .u8 n]::r=>match bytesV r with
  | some l=>some (UInt8.ofNat n.toNat::l)
  | none=>none
 | _=>none
def bitV(op:BinOp)(k:IntKind)(a b:Int):Int:=match op with
 | .and=>k.wrap (BitVec.ofInt k.bits a &&& BitVec.ofInt k.bits b).toNat
 | .or=>k.wrap (BitVec.ofInt k.bits a ||| BitVec.ofInt k.bits b).toNat
 | .xor=>k.wrap (BitVec.ofInt k.bits a ^^^ BitVec.ofInt k.bits b).toNat
 | _=>k.wrap (BitVec.ofInt k.bits a &&& ~~~ BitVec.ofInt k.bits b).toNat
def binS(op:BinOp)(x y:V)(K:V→Prop):Prop:=
 match op,x,y with
 | .add,.int k a,.int k' b=>k=k'∧∃n,k.wrap (a+b)=n∧K (.int k n)
 | .sub,.int k a,.int k' b=>k=k'∧∃n,k.wrap (a - b)=n∧K (.int k n)
 | .mul,.int k a,.int k' b=>k=k'∧∃n,k.wrap (a*b)=n∧K (.int k n)
 | .quo,.int k a,.int k' b=>k=k'∧b≠0∧∃n,k.wrap (a.tdiv b)=n∧K (.int k n)
 | .rem,.int k a,.int k' b=>k=k'∧b≠0∧∃n,a.tmod b=n∧K (.int k n)
 | .and,.int k a,.int k' b=>k=k'∧∃n,bitV .and k a b=n∧K (.int k n)
 | .or,.int k a,.int k' b=>k=k'∧∃n,bitV .or k a b=n∧K (.int k n)
 | .shl,.int k a,.int _ b=>0≤b∧∃n,k.wrap (a*2 ^ (min b.toNat k.bits))=n∧K (.int k n)
 | .shr,.int k a,.int _ b=>0≤b∧∃n,a.fdiv (2 ^ (min b.toNat k.bits))=n∧K (.int k n)
 | .lss,.int k a,.int k' b=>k=k'∧∀q:Bool,(q=true↔a < b)→K (.bool q)
 | .leq,.int k a,.int k' b=>k=k'∧∀q:Bool,(q=true↔a≤b)→K (.bool q)
 | .gtr,.int k a,.int k' b=>k=k'∧∀q:Bool,(q=true↔b < a)→K (.bool q)
 | .geq,.int k a,.int k' b=>k=k'∧∀q:Bool,(q=true↔b≤a)→K (.bool q)
 | .eql,.int k a,.int k' b=>k=k'∧∀q:Bool,(q=true↔a=b)→K (.bool q)
 | .neq,.int k a,.int k' b=>k=k'∧∀q:Bool,(q=true↔a≠b)→K (.bool q)
 | .add,.str a,.str b=>a.size+b.size≤9223372036854775807∧∃s,a++b=s∧K (.str s)
 | .eql,.str a,.str b=>∀q:Bool,(q=true↔a=b)→K (.bool q)
 | .neq,.str a,.str b=>∀q:Bool,(q=true↔a≠b)→K (.bool q)
 | _,_,_=>False
def eqlS(x y:V)(K:Bool→Prop):Prop:=
 match x,y with
 | .bool a,.bool b=>∀q:Bool,(q=true↔a=b)→K q
 | .nili,.nili=>K true
 | .ifc _ _,.nili=>K false
 | .nili,.ifc _ _=>K false
 | _,_=>False
def isConstO:Operand→Bool
 | .const _=>true
 | _=>false
def boundT(st:St)(d:Int):Option Operand→Option Int
 | none=>some d
 | some x=>match st.ev x with
  | .v (.int .i64 n)=>some n
  | _=>none
def mget:V→List V→List V→Option V
 | .int k n,.int _ m::ks,v::vs=>if n=m then some v else mget (.int k n) ks vs
 | .str s,.str s'::ks,v::vs=>if s=s' then some v else mget (.str s) ks vs
 | _,_,_=>none
def keyOk:Option IntKind→V→Bool
 | some q,.int k _=>k==q
 | none,.str _=>true
 | _,_=>false
def lookT(ok:Bool)(z:V):Option V→T
 | some v=>match ok with
  | true=>.tup [.v v,.v (.bool true)]
  | false=>.v v
 | none=>match ok with
  | true=>.tup [.v z,.v (.bool false)]
  | false=>.v z
abbrev ConF:=FuncId→List (List T)→List T→T→List (List T)→Prop
structure Con where
 call:ConF
 gv:Nat→V→Prop
 inl:FuncId→List T→List (Nat×List T)→List (Nat×Option Nat)→T→List (Nat×List T)→List (Nat×Option Nat)→List Nat→Prop
instance:CoeFun Con fun _=>ConF:=⟨Con.call⟩
def mutF:List Nat:=[28,46,95,96,97,99,100,103,113,136,138,149,169,179,180,181,184,192,193,196,198,199,200,205,206,221,222,223,224,225,226,227,244,254,255,264,265]
def newF:List Nat:=[46,95,196]
def Op.isStore:Op→Bool
 | .store _ _ _=>true
 | .call c=>match c.callee with
  | .value (.func f)=>mutF.any fun k=>Nat.beq k f
  | .value (.tmp _)=>true
  | _=>false
 | _=>false
mutual
def LeT:T→T→Prop
 | _,.un=>True
 | .v x,.v y=>x=y∨(x.nz=y∧y=y)
 | .own _ _ xs,.v y=>y=.sl xs
 | .ptr i o,.ptr j p=>i=j∧o=p
 | .ro a,.ro b=>a=b
 | .fn f cs,.fn g ds=>f=g∧LeTs cs ds
 | _,_=>False
def LeTs:List T→List T→Prop
 | [],[]=>True
 | x::xs,y::ys=>LeT x y∧LeTs xs ys
 | _,_=>False
end
def LeEs:List T→List T→Prop
 | [],[]=>True
 | c::cs,d::ds=>(c=d∨LeT c d)∧LeEs cs ds
 | _,_=>False
mutual
def T.pure:T→Bool
 | .ptr _ _=>false
 | .own _ _ _=>false
 | .fn _ caps=>T.pures caps
 | .tup l=>T.pures l
 | .sub _ _=>false
 | _=>true
def T.pures:List T→Bool
 | []=>true
 | t::r=>t.pure&&T.pures r
end
mutual
def T.isP:T→Bool
 | .ptr _ _=>true
 | .fn _ caps=>T.anyP caps
 | .tup l=>T.anyP l
 | _=>false
def T.anyP:List T→Bool
 | []=>false
 | t::r=>t.isP||T.anyP r
end
mutual
def ArgLe(bx:List Nat):T→T→Prop
 | .ptr i o,.ptr j q=>bx[j]? =some i∧o=q
 | .fn f cs,.fn g ds=>f=g∧ArgLes bx cs ds
 | t,t'=>LeT t t'∧t'.pure=true
def ArgLes(bx:List Nat):List T→List T→Prop
 | [],[]=>True
 | x::xs,y::ys=>ArgLe bx x y∧ArgLes bx xs ys
 | _,_=>False
end
mutual
def T.noK:T→Bool
 | .own _ _ _=>false
 | .fn _ caps=>T.noKs caps
 | .tup l=>T.noKs l
 | .sub _ _=>false
 | _=>true
def T.noKs:List T→Bool
 | []=>true
 | t::r=>t.noK&&T.noKs r
end
def T.noKss:List (List T)→Bool
 | []=>true
 | l::r=>T.noKs l&&T.noKss r
def scrO(t:T):T:=match t with
 | .own _ _ xs=>.v (.sl xs)
 | t=>match t.noK with
  | true=>t
  | false=>.un
def scrN:List Nat→T→T
 | [],t=>scrO t
 | d::r,t=>scrP d (scrN r t)
def nwOk(n:Nat):List Nat→Bool
 | []=>true
 | d::r=>Nat.blt d n&&nwOk n r
mutual
def renT(bx:List Nat):T→T
 | .ptr j q=>match bx[j]? with
  | some i=>.ptr i q
  | none=>.un
 | .fn f caps=>.fn f (renTs bx caps)
 | .tup l=>.tup (renTs bx l)
 | .un=>.un
 | .v x=>.v x
 | .own _ _ _=>.un
 | .sub _ _=>.un
 | .ro cs=>.ro cs
def renTs(bx:List Nat):List T→List T
 | []=>[]
 | t::r=>renT bx t::renTs bx r
end
def nodupB:List Nat→Bool
 | []=>true
 | i::r=>(!r.any fun j=>Nat.beq i j)&&nodupB r
def bxOk(st:St)(bx0:List Nat):List Nat→List (List T)→Prop
 | [],[]=>True
 | i::bx,cs::css=>(match lk i st.bs with
  | some c=>ArgLes bx0 c cs
  | none=>False)∧bxOk st bx0 bx css
 | _,_=>False
def bsetsK(bx0:List Nat):St→List Nat→List (List T)→(St→Prop)→Prop
 | st,[],[],K=>K st
 | st,i::bx,cs::css,K=>frcTs (renTs bx0 cs) fun cs'=>bsetsK bx0 (st.bset i cs') bx css K
 | _,_,_,_=>False
def elT(k:Nat)(r:T)(t:T):T:=match t with
 | .sub k' (.ext _ _)=>match Nat.beq k' k with
  | true=>r
  | false=>t
 | t=>scrK k t
def semSlice(tb:Tab)(t:Nat)(x:Operand)(lo hi mx:Option Operand)(st:St)(K:T→St→Prop):Prop:=match mx with
 | some y=>match(st.ev x).toV with
  | some (.sl xs)=>match lk t tb.elt with
   | some e=>match lk e tb.siz with
    | some q=>match boundT st 0 lo with
     | some l=>match hi with
      | some hi'=>match boundT st 0 (some hi') with
       | some h=>match boundT st 0 (some y) with
        | some m=>∃a b c:Nat,l=a∧h=b∧m=c∧a≤b∧b≤c∧c≤xs.length∧(∀c∈xs,c.length=q.1)∧∃z,(xs.take b).drop a=z∧K (.v (.sl z)) st
        | none=>False
       | none=>False
      | none=>False
     | none=>False
    | none=>False
   | none=>False
  | _=>False
 | none=>match(st.ev x).toV with
  | some (.str s)=>match lk t tb.str with
   | some _=>match boundT st 0 lo with
    | some l=>match boundT st s.size hi with
     | some h=>∃a b:Nat,l=a∧h=b∧a≤b∧b≤s.size∧∃z,s.extract a b=z∧K (.v (.str z)) st
     | none=>False
    | none=>False
   | none=>False
  | some (.sl xs)=>match lk t tb.elt with
   | some e=>match lk e tb.siz with
    | some q=>match boundT st 0 lo with
     | some l=>match boundT st xs.length hi with
      | some h=>∃a b:Nat,l=a∧h=b∧a≤b∧b≤xs.length∧(∀c∈xs,c.length=q.1)∧∃z,(xs.take b).drop a=z∧K (.v (.sl z)) st
      | none=>False
     | none=>False
    | none=>False
   | none=>False
  | _=>False
def bysB(t:Nat):Bool:=([44]:List Nat).any fun k=>Nat.beq k t
def byteV(b:UInt8):List V:=[.int .u8 (b.toNat:Nat)]
def semOp (tb : Tab) (C : Con) (o : Oper) (st : St) (K : T → St → Prop) : Prop :=
 match o.op with
 | .move x=>K (st.ev x) st
 | .assign x=>K (st.ev x) st
 | .pick c a b=>match st.ev c with
  | .v (.bool true)=>K (st.ev a) st
  | .v (.bool false)=>K (st.ev b) st
  | _=>False
 | .alloc t=>match o.dst with
  | some d=>match lk t tb.zer with
   | some z=>match Nat.blt d st.n with
    | true=>frcAll (st.alloc d (z.map T.v)) fun st'=>K (.ptr d 0) st'
    | false=>False
   | none=>False
  | none=>False
 | .box _ x=>match o.dst with
  | some d=>match(st.ev x).cellsT with
   | some cs=>match Nat.blt d st.n with
    | true=>frcAll (st.alloc d cs) fun st'=>K (.ptr d 0) st'
    | false=>False
   | none=>False
  | none=>False
 | .build t ps=>match lk t tb.zer with
  | some z=>match lk t tb.fld with
   | some fs=>match fillV fs z (ps.toList.map fun p=>(p.1,(st.ev p.2).toV)) with
    | some cs=>match tb.nzb with
     | false=>K (.v (.agg cs)) st
     | true=>K (.v (.agg (cs.map V.nz1))) st
    | none=>False
   | none=>False
  | none=>False
 | .buildSlice t n ps=>match o.dst with
  | some d=>match lk t tb.elt with
   | some e=>match lk e tb.siz with
    | some q=>match elemsV q.1 0 (ps.toList.map fun p=>(p.1,(st.ev p.2).toV)) with
     | some xs=>match Nat.beq xs.length n with
      | true=>match Nat.ble (n*q.1) 1000 with
       | true=>match n with
        | 0=>False
        | _+1=>frcAll (st.row d e) fun st'=>K (.own d e xs) st'
       | false=>False
      | false=>False
     | none=>False
    | none=>False
   | none=>False
  | none=>False
 | .load t x=>match lk t tb.siz with
  | some q=>match st.ev x with
   | .ptr i o=>match lk i st.bs with
    | some cs=>match q.2 with
     | true=>match toVs ((cs.drop o).take q.1) with
      | some l=>match Nat.beq l.length q.1 with
       | true=>K (.v (.agg l)) st
       | false=>False
      | none=>False
     | false=>match cs[o]? with
      | some c=>K c st
      | none=>False
    | none=>False
   | .ro cs=>match q.2 with
    | true=>match Nat.beq (cs.take q.1).length q.1 with
     | true=>K (.v (.agg (cs.take q.1))) st
     | false=>False
    | false=>match cs with
     | c::_=>K (.v c) st
     | []=>False
   | .un=>match x with
    | .global gn=>match q.2 with
     | true=>False
     | false=>∃v,C.gv gn v∧K (.v v) st
    | _=>False
   | _=>False
  | none=>False
 | .store t x y=>match lk t tb.siz with
  | some q=>match st.ev x with
   | .ptr i o=>match lk i st.bs with
    | some cs=>match(st.ev y).cellsT with
     | some ys=>match Nat.beq ys.length q.1 with
      | true=>match Nat.ble (o+q.1) cs.length with
       | true=>frcTs (cs.take o++ys++cs.drop (o+q.1)) fun cs'=>K .un (st.bset i cs')
       | false=>False
      | false=>False
     | none=>False
    | none=>False
   | .sub k (.el e xs)=>match lget st.lv k with
    | some e'=>match(st.ev y).toV with
     | some (.agg l)=>match Nat.beq l.length q.1&&Nat.beq e e'&&Nat.beq e t with
      | true=>xs.length+1≤1000000000∧frcAll (St.mk st.n (scrEnv (elT k (.own k e (xs++[l]))) st.env) (scrBs (elT k (.own k e (xs++[l]))) st.bs) ((st.kill k).row k e).lv) fun st'=>K .un st'
      | false=>False
     | _=>False
    | none=>False
   | _=>False
  | none=>False
 | .fieldAddr s x f=>match lk s tb.fld with
  | some fs=>match fs[f]? with
   | some q=>match st.ev x with
    | .ptr i o=>K (.ptr i (o+q.1)) st
    | .ro cs=>K (.ro (cs.drop q.1)) st
    | _=>False
   | none=>False
  | none=>False
 | .field s x f=>match lk s tb.fld with
  | some fs=>match fs[f]? with
   | some q=>match(st.ev x).toV with
    | some (.agg l)=>match q.2.2 with
     | true=>match Nat.beq ((l.drop q.1).take q.2.1).length q.2.1 with
      | true=>K (.v (.agg ((l.drop q.1).take q.2.1))) st
      | false=>False
     | false=>match l[q.1]? with
      | some y=>K (.v y) st
      | none=>False
    | _=>False
   | none=>False
  | none=>False
 | .indexAddr t x ix=>match lk t tb.elt with
  | some e=>match lk e tb.siz with
   | some q=>match(st.ev x).toV with
    | some (.sl xs)=>match st.ev ix with
     | .v (.int .i64 n)=>∃c,0≤n∧xs[n.toNat]? =some c∧c.length=q.1∧K (.ro c) st
     | _=>False
    | _=>match st.ev x with
     | .sub k (.ext e' xs)=>match st.ev ix with
      | .v (.int .i64 n)=>n=xs.length∧e'=e∧K (.sub k (.el e xs)) st
      | _=>False
     | _=>False
   | none=>False
  | none=>False
 | .index t x ix=>match lk t tb.str with
  | some _=>match st.ev x with
   | .v (.str s)=>match st.ev ix with
    | .v (.int .i64 n)=>∃c:UInt8,0≤n∧s.data.toList[n.toNat]? =some c∧K (.v (.int .u8 c.toNat)) st
    | _=>False
   | _=>False
  | none=>False
 | .lookup t x ix ok=>match lk t tb.mps with
  | some q=>match(st.ev x).toV with
   | some (.mp ks vs)=>match(st.ev ix).toV with
    | some k=>match keyOk q.1 k&&ks.all (keyOk q.1)&&Nat.beq ks.length vs.length with
     | true=>∃r,mget k ks vs=r∧K (lookT ok q.2 r) st
     | false=>False
    | none=>False
   | _=>False
  | none=>False
 | .slice t x lo hi mx=>match tb.sub with
  | false=>semSlice tb t x lo hi mx st K
  | true=>match st.ev x with
   | .own k e xs=>match lo,hi,mx with
    | none,some y,none=>match boundT st 0 (some y) with
     | some h=>match lk t tb.elt with
      | some e'=>match lk e' tb.siz with
       | some _=>∃m:Nat,h=m∧m≤xs.length∧K (.sub k (.pre m)) st
       | none=>False
      | none=>False
     | none=>False
    | _,_,_=>False
   | _=>semSlice tb t x lo hi mx st K
 | .extract x i=>match st.ev x with
  | .tup l=>match l[i]? with
   | some t=>K t st
   | none=>False
  | _=>False
 | .binOp op t x y _=>match(st.ev x).toV with
  | some a=>match(st.ev y).toV with
   | some b=>match a,op with
    | .bool _,.eql=>match lk t tb.boo with
     | some _=>eqlS a b fun q=>K (.v (.bool q)) st
     | none=>False
    | .bool _,.neq=>match lk t tb.boo with
     | some _=>eqlS a b fun q=>K (.v (.bool (!q))) st
     | none=>False
    | .nili,.eql=>match isConstO y,lk t tb.con with
     | true,some true=>eqlS a b fun q=>K (.v (.bool q)) st
     | _,_=>False
    | .nili,.neq=>match isConstO y,lk t tb.con with
     | true,some true=>eqlS a b fun q=>K (.v (.bool (!q))) st
     | _,_=>False
    | .ifc _ _,.eql=>match isConstO y,lk t tb.con with
     | true,some true=>eqlS a b fun q=>K (.v (.bool q)) st
     | _,_=>False
    | .ifc _ _,.neq=>match isConstO y,lk t tb.con with
     | true,some true=>eqlS a b fun q=>K (.v (.bool (!q))) st
     | _,_=>False
    | .agg xs,.eql=>match b,lk t tb.eqs with
     | .agg ys,some ks=>match flatV ks xs&&flatV ks ys with
      | true=>∀q:Bool,(q=true↔xs=ys)→K (.v (.bool q)) st
      | false=>False
     | _,_=>False
    | .agg xs,.neq=>match b,lk t tb.eqs with
     | .agg ys,some ks=>match flatV ks xs&&flatV ks ys with
      | true=>∀q:Bool,(q=true↔xs=ys)→K (.v (.bool (!q))) st
      | false=>False
     | _,_=>False
    | _,_=>binS op a b fun v=>K (.v v) st
   | none=>False
  | none=>False
 | .unOp op _ x=>match op,st.ev x with
  | .not,.v (.bool q)=>K (.v (.bool (!q))) st
  | .neg,.v (.int k n)=>∃z,k.wrap (0 - n)=z∧K (.v (.int k z)) st
  | _,_=>False
 | .convert s t x=>match lk t tb.ints with
  | some k=>match lk s tb.ints with
   | some _=>match st.ev x with
    | .v (.int _ a)=>∃n,k.wrap a=n∧K (.v (.int k n)) st
    | _=>False
   | none=>False
  | none=>match bysB t with
   | false=>match lk t tb.str with
    | some _=>match lk s tb.elt with
     | some e=>match lk e tb.ints with
      | some .u8=>match(st.ev x).toV with
       | some (.sl xs)=>∃l,bytesV xs=some l∧K (.v (.str ⟨l.toArray⟩)) st
       | some .nils=>K (.v (.str ⟨#[]⟩)) st
       | _=>False
      | _=>False
     | none=>False
    | none=>False
   | true=>match lk t tb.elt,lk s tb.str,(st.ev x).toV with
    | some e,some _,some (.str z)=>match lk e tb.ints with
     | some .u8=>K (.v (.sl (z.data.toList.map byteV))) st
     | _=>False
    | _,_,_=>False
 | .makeInterface t x=>match lk t tb.con with
  | some false=>match(st.ev x).toV with
   | some a=>K (.v (.ifc t a)) st
   | none=>False
  | _=>False
 | .makeFunc fn first captured=>match fn with
  | .func f=>match first.toList with
   | []=>K (.fn f (captured.toList.map st.ev)) st
   | _=>False
  | _=>False
 | .nilCheck x=>match st.ev x with
  | .ptr i o=>K (.ptr i o) st
  | .ro cs=>K (.ro cs) st
  | _=>False
 | .call c => match c.callee with
  | .builtin .len=>match c.args.toList,c.argTypes.toList with
   | [x],[t]=>match(st.ev x).toV with
    | some (.str s)=>match lk t tb.str with
     | some _=>K (.v (.int .i64 s.size)) st
     | none=>False
    | some (.sl xs)=>match lk t tb.elt with
     | some _=>K (.v (.int .i64 xs.length)) st
     | none=>False
    | some .nils=>match lk t tb.elt with
     | some _=>K (.v (.int .i64 0)) st
     | none=>False
    | some (.raw (.slice _ n _))=>match lk t tb.elt with
     | some _=>K (.v (.int .i64 n)) st
     | none=>False
    | _=>False
   | _,_=>False
  | .builtin .min=>match c.args.toList with
   | [x,y]=>match st.ev x,st.ev y with
    | .v (.int k a),.v (.int k' b)=>∃n,(if b < a then b else a)=n∧K (.v (.int k n)) st
    | _,_=>False
   | _=>False
  | .builtin .max=>match c.args.toList with
   | [x,y]=>match st.ev x,st.ev y with
    | .v (.int k a),.v (.int k' b)=>∃n,(if a < b then b else a)=n∧K (.v (.int k n)) st
    | _,_=>False
   | _=>False
  | .builtin .append=>match o.dst with
   | some d=>match c.args.toList,c.argTypes.toList with
    | [s, x], [t, t'] => match Nat.beq t t', lk t tb.elt with
     | true,some e=>match lk e tb.siz with
      | some q=>match(st.ev x).toV with
       | some (.sl ys)=>match st.ev s with
        | .v .nils=>match tb.elm with
         | false=>ys.length≤1000000000∧(∀c∈ys,c.length=q.1)∧frcAll (st.row d e) fun st'=>K (.own d e ys) st'
         | true=>ys.length=1∧(∀c∈ys,c.length=q.1)∧frcAll (st.row d e) fun st'=>K (.sub d (.ext e [])) st'
        | .own k e' xs=>match lget st.lv k with
         | some e''=>match Nat.beq e e''&&Nat.beq e e' with
          | true=>match tb.elm with
           | false=>xs.length+ys.length≤1000000000∧(∀c∈ys,c.length=q.1)∧∃zs,xs++ys=zs∧frcAll ((st.kill k).row d e) fun st'=>K (.own d e zs) st'
           | true=>ys.length=1∧xs.length+1≤1000000000∧(∀c∈ys,c.length=q.1)∧frcAll ((st.kill k).row d e) fun st'=>K (.sub d (.ext e xs)) st'
          | false=>False
         | none=>False
        | _=>False
       | _=>False
      | none=>False
     | _,_=>False
    | _,_=>False
   | none=>False
  | .value g=>match st.ev g with
   | .fn f caps=>match lk f tb.ptrf with
    | some _=>False
    | none=>match T.anyP (c.args.toList.map st.ev++caps)||(newF.any (fun k=>Nat.beq k f)||tb.nwf.any fun k=>Nat.beq k f) with
     | false=>∃(args:List T) (r:T),C f [] args r []∧LeTs (c.args.toList.map st.ev++caps) args∧T.pures args=true∧r.pure=true∧K r st
     | true=>match Op.isStore o.op with
      | false=>False
      | true=>(∃(bx:List Nat) (cs0:List T) (css:List (List T)) (args:List T) (r:T) (css':List (List T)),C f (cs0::css) args r css'∧nodupB bx=true∧bxOk st bx bx (cs0::css)∧ArgLes bx (c.args.toList.map st.ev++caps) args∧r.pure=true∧bsetsK bx st bx css' fun st'=>K r st')∨
       ∃(nw:List Nat) (args:List T) (r:T) (bs':List (Nat×List T)) (lv':List (Nat×Option Nat)),C.inl f args st.bs st.lv r bs' lv' nw∧LeEs (c.args.toList.map st.ev++caps) args∧nwOk st.n nw=true∧frcAll (St.mk st.n (scrEnv (scrN nw) st.env) bs' lv') fun st'=>K r st'
   | _=>False
  | _=>False
 | _=>False
theorem frc_put{o:Oper}(K:St→Prop):(fun(t:T) (st':St)=>frcT t fun t=>frcSt (st'.put o.dst t) K)=fun t st'=>K (st'.put o.dst t):=by
 funext t st'
 rw[frcT_eq,frcSt_eq]
def semG(tb:Tab)(C:Con)(ops:List Oper)(o:Oper)(st:St)(K:St→Prop):Prop:=
 match o.guard with
 | none=>semOp tb C o st fun t st'=>frcT t fun t=>frcSt (st'.put o.dst t) K
 | some p=>match ops[p.1]? with
  | some g=>match g.dst with
   | some d=>match tget st.env d,p.2 with
    | .v (.bool true),true=>semOp tb C o st fun t st'=>frcT t fun t=>frcSt (st'.put o.dst t) K
    | .v (.bool false),false=>semOp tb C o st fun t st'=>frcT t fun t=>frcSt (st'.put o.dst t) K
    | .v (.bool true),false=>frcSt (st.put o.dst (.tup [])) K
    | .v (.bool false),true=>frcSt (st.put o.dst (.tup [])) K
    | .tup [],_=>frcSt (st.put o.dst (.tup [])) K
    | _,_=>False
   | none=>False
  | none=>False
def semOps(tb:Tab)(C:Con)(ops:List Oper):List Oper→St→(St→Prop)→Prop
 | [],st,K=>K st
 | o::r,st,K=>semG tb C ops o st fun st'=>semOps tb C ops r st' K
def fixedStores(ops:List Oper):List Nat:=ops.filterMap fun o=>match o.op with
 | .store _ (.tmp s) _=>match ops.all fun q=>match q.dst with | some d=> !Nat.beq d s | none=>true with
  | true=>some s
  | false=>none
 | _=>none
def freeStores(ops:List Oper)(i:Nat):List Nat:=(fixedStores ops).filter fun s=>ops.any fun o=>match o.op with
 | .store _ (.tmp s') _=>Nat.beq s s'&& !(o.after.toList.any fun e=>Region.binds .any e&&Nat.beq e.on i)
 | _=>false
def sepB(st:St)(i:Nat):List Nat→Bool
 | []=>true
 | s::r=>(match tget st.env s with
  | .ptr j _=> !Nat.beq i j&&(lk j st.bs).isSome
  | _=>false)&&sepB st i r
def sepG(st:St):List Nat→Bool
 | []=>true
 | s::r=>(match tget st.env s with
  | .ptr j _=>(lk j st.bs).isSome
  | _=>false)&&sepG st r
def Op.isLoad:Op→Bool
 | .load _ _=>true
 | .convert _ _ _=>true
 | _=>false
def quietOp:Op→Bool
 | .move _=>true
 | .assign _=>true
 | .pick _ _ _=>true
 | .build _ _=>true
 | .load _ _=>true
 | .fieldAddr _ _ _=>true
 | .field _ _ _=>true
 | .indexAddr _ _ _=>true
 | .index _ _ _=>true
 | .slice _ _ _ _ _=>true
 | .extract _ _=>true
 | .binOp _ _ _ _ _=>true
 | .unOp _ _ _=>true
 | .convert _ t _=> !bysB t
 | .makeInterface _ _=>true
 | .makeFunc _ _ _=>true
 | .nilCheck _=>true
 | .call c=>match c.callee with
  | .builtin .len=>true
  | .builtin .min=>true
  | .builtin .max=>true
  | _=>false
 | _=>false
def Op.isDefer:Op→Bool
 | .defer _=>true
 | _=>false
def stepOk(ops:Array Oper)(listed:Array Bool)(i:Nat):Bool:=match ops[i]? with
 | none=>false
 | some o=>(Region.ready .any ops listed==[i])||(quietOp o.op&&(Region.ready .any ops listed).contains i&&Region.free .any ops listed i&&
   (!Op.isLoad o.op||(List.range ops.size).all fun j=>j==i||listed.getD j true||match ops[j]? with
    | some oj=>oj.after.any (fun e=>Region.binds .any e&&e.on==i)|| !Op.isStore oj.op
    | none=>true))
def stepOkS(ops:Array Oper)(listed:Array Bool)(i:Nat):Bool:=match ops[i]? with
 | none=>false
 | some o=>quietOp o.op&&(Region.ready .any ops listed).contains i&&Region.free .any ops listed i&&
   ((List.range ops.size).all fun j=>j==i||listed.getD j true||match ops[j]? with
    | some oj=>oj.after.any (fun e=>Region.binds .any e&&e.on==i)|| !Op.isStore oj.op||match oj.op with
     | .store _ (.tmp s) _=>(fixedStores ops.toList).contains s
     | _=>false
    | none=>true)
def stepOkR(ops:Array Oper)(listed:Array Bool)(i:Nat):Bool:=match ops[i]? with
 | none=>false
 | some o=>quietOp o.op&&(Region.ready .any ops listed).contains i&&Region.free .any ops listed i
def stepAny(ops:Array Oper)(listed:Array Bool)(i:Nat):Bool:=match Nat.blt i 1000 with
 | true=>stepOk ops listed i
 | false=>match Nat.blt i 3000 with
  | true=>stepOkS ops listed (i - 1000)
  | false=>stepOkR ops listed (i - 3000)
def ixOf(i:Nat):Nat:=match Nat.blt i 1000 with
 | true=>i
 | false=>match Nat.blt i 3000 with
  | true=>i - 1000
  | false=>i - 3000
inductive Tr where
 | nil
 | one (i:Nat) (r:Tr)
 | or (a b:Tr)
def heads:Tr→List Nat
 | .nil=>[]
 | .one i _=>[i]
 | .or a b=>heads a++heads b
def Tr.dep:Tr→Nat
 | .nil=>0
 | .one _ r=>r.dep+1
 | .or a b=>max a.dep b.dep
def takeT(ops:Array Oper):Bool→Tr→Array Bool→Bool
 | alt,.nil,listed=> !alt&&(Region.ready .any ops listed).isEmpty
 | alt,.one i r,listed=>match alt with
  | true=>Nat.blt i 1000&&takeT ops false r (listed.setIfInBounds i true)
  | false=>stepAny ops listed i&&takeT ops false r (listed.setIfInBounds (ixOf i) true)
 | alt,.or a b,listed=>(alt||(!(Region.ready .any ops listed).isEmpty&&(Region.ready .any ops listed).all fun i=>(heads a++heads b).contains i))&&(takeT ops true a listed&&takeT ops true b listed)
def takeOk(ops:Array Oper):List Nat→Array Bool→Bool
 | [],listed=>(Region.ready .any ops listed).isEmpty
 | i::r,listed=>match Nat.beq i 9999 with
  | true=>r.isEmpty&&(List.range ops.size).all fun j=>listed.getD j true==false
  | false=>stepAny ops listed i&&takeOk ops r (listed.setIfInBounds (ixOf i) true)
def regionOk(ops:Array Oper)(sch:List Nat):Bool:=Nat.ble sch.length ops.size&&Region.noSelect ops&&(ops.all fun o=> !Op.isDefer o.op)&&takeOk ops sch (Array.replicate ops.size false)
def leE(e e0:List (Nat×T)):List (Nat×T)→Prop
 | []=>True
 | p::r=>tget e p.1=tget e0 p.1∧leE e e0 r
def leB(e e0:List (Nat×List T)):List (Nat×List T)→Prop
 | []=>True
 | p::r=>lk p.1 e=lk p.1 e0∧leB e e0 r
def leL(e e0:List (Nat×Option Nat)):List (Nat×Option Nat)→Prop
 | []=>True
 | p::r=>lget e p.1=lget e0 p.1∧leL e e0 r
structure St.le (st st0:St):Prop where
 n:st.n=st0.n
 env:leE st.env st0.env st0.env
 bs:leB st.bs st0.bs st0.bs
 lv:leL st.lv st0.lv st0.lv
def semAt(tb:Tab)(C:Con)(ops:List Oper)(i:Nat)(st:St)(K:St→Prop):Prop:=match Nat.blt i 1000 with
 | true=>match ops[i]? with
  | some o=>semG tb C ops o st K
  | none=>False
 | false=>match Nat.blt i 3000 with
  | true=>match ops[i - 1000]? with
   | some o=>match o.op with
    | .load _ x=>match st.ev x with
     | .ptr b _=>match(lk b st.bs).isSome&&sepB st b (freeStores ops (i - 1000)) with
      | true=>semG tb C ops o st K
      | false=>False
     | .un=>match x with
      | .global gn=>match sepG st (freeStores ops (i - 1000)) with
       | true=>(∃v,C.gv gn v)∧semG tb C ops o st K
       | false=>False
      | _=>False
     | _=>False
    | _=>False
   | none=>False
  | false=>match ops[i - 3000]? with
   | some o=>match o.op with
    | .load _ x=>match st.ev x with
     | .ro _=>semG tb C ops o st K
     | _=>False
    | _=>False
   | none=>False
def semTr(tb:Tab)(C:Con)(ops:List Oper):Tr→St→(St→Prop)→Prop
 | .nil,st,K=>K st
 | .one i r,st,K=>semAt tb C ops i st fun st'=>semTr tb C ops r st' K
 | .or a b,st,K=>semTr tb C ops a st K∧semTr tb C ops b st K
def semSch(tb:Tab)(C:Con)(ops:List Oper):List Nat→St→(St→Prop)→Prop
 | [],st,K=>K st
 | i::r,st,K=>match Nat.beq i 9999 with
  | true=>∃t:Tr,(Nat.ble t.dep ops.length&&takeT ops.toArray false t (Array.replicate ops.length false))=true∧∃st0,semTr tb C ops t st (fun st'=>St.le st' st0)∧K st0
  | false=>semAt tb C ops i st fun st'=>semSch tb C ops r st' K
end Go.Proofs.YtknelogmocedeaaGreatDoor
