/- Several texts, one behind the other. filt, walked: what Go's library and dn give it; names of attributes. Conditions: texts of at most 10^6 bytes. errors.As at an error type of the package Part: a struct of one cell. No conditions beyond the shape of memory that each theorem names. errors.Is at an error of the package Part that wraps the package's sentinel, against a sentinel: true just if it is that one (Go's text is walked). No conditions beyond the shape of memory that each theorem names. part.told: the number of an error of the package part. Conditions: the package's variable holds its sentinel. part, walked: errors told, rules, OIDs, names, trees of texts and numbers. Conditions: as in these contracts. part, walked: parts that are taken one by one. Conditions: at most 10^8 in one tree, texts of at most 10^8 bytes. -/
import Derived.Test.YtknelogmocedeaaGreatDoorR25
import Derived.Test.YtknelogmocedeaaGreatDoorR01
import Derived.Test.YtknelogmocedeaaGreatDoorR11
import Derived.Test.YtknelogmocedeaaGreatDoorR14
import Derived.Test.YtknelogmocedeaaGreatDoorR13
import Derived.Shelf.Strings.FuncGrows
import Derived.Test.YtknelogmocedeaaGreatDoorR16
import Derived.Test.YtknelogmocedeaaGreatDoorProg
import Derived.WalkKit
import Derived.KernelRfl
import Derived.LaidEql
import Derived.Stop.Asserts
import Derived.RowKitTokens
import Derived.Test.YtknelogmocedeaaGreatDoorR23
import Derived.Test.YtknelogmocedeaaGreatDoorR21
namespace Go.Proofs.YtknelogmocedeaaGreatDoor.Fi
open Go.RowKit Go.Shelf Go.Lib Fl
set_option linter.unusedVariables false
def spl(c:UInt8)(s:ByteArray):List ByteArray:=(Txt.splitOn c (bl s)).map bt'
variable (p : Nat → Addr)
theorem split_fn(s:ByteArray)(hs:s.size≤100000000)(c:UInt8):Fn Tryz.prog (envX p) 56 [.v (.str s),.v (.str ⟨#[c]⟩)] (.v (.sl ((spl c s).map encS))):=by
 refine⟨enter_of (by kernel_rfl),fun w L vs hE hL ha=>?_⟩
 obtain⟨v,v',rfl,h,h'⟩:=two_args ha
 rw[show v=.string s from h,show v'=.string ⟨#[c]⟩ from h']
 obtain⟨m,hm⟩:=Env.ml hE
 refine(Shelf.strings_Split s ⟨#[c]⟩ m w (by omega) hm (Nat.le_refl 1)).mono ?_
 rintro e w' ⟨rfl,rfl⟩
 have hS:=Txt.split_one s c
 generalize hzs:splitB ⟨#[c]⟩ 0 (countB s ⟨#[c]⟩) s=zs at hS ⊢
 obtain⟨h1,h2⟩:=hS
 have hz:zs=spl c s:=by
  unfold spl
  rw[←h1,List.map_map]
  conv=>lhs;rw[←List.map_id zs]
  exact List.map_congr_left fun z _=>rfl
 have hb:=below_new w (.cells (zs.map Value.string).toArray 9)
 have hcell:∀(i:Nat) (z:ByteArray),zs[i]? =some z→(w.alloc (.cells (zs.map Value.string).toArray 9)).cell? ⟨w.heap.size,i,none⟩=some (.string z):=fun i z hi=>by
  have:=cel (heap_alloc_new w (.cells (zs.map Value.string).toArray 9)) i (v:=.string z) (by simp[hi])
  exact this
 refine⟨_,fun b o=>L b o∨(b=w.heap.size∧o < zs.length),rfl,hb,⟨fun b o u h3 h4=>⟨.inl h3,cell_below h4 hb⟩,.of_below hb⟩,fun h3=>h3.imp id (fun h3=>by rw[h3.1];exact Nat.le_refl _),fun {b o} h3=>?_,?_⟩
 ·rcases h3 with h3 | ⟨rfl,h3⟩
  ·obtain⟨u,hu⟩:=hL h3
   exact⟨u,cell_below hu hb⟩
  ·exact⟨_,hcell o _ (List.getElem?_eq_getElem h3)⟩
 ·rw[←hz,←h2]
  refine⟨some ⟨w.heap.size,0,none⟩,zs.length,by rw[List.length_map],by rw[List.length_map];exact Nat.le_refl _,fun _=>⟨w.heap.size,0,1,rfl,RepE.of_get _ _ fun i cc hc=>?_⟩⟩
  rw[List.getElem?_map] at hc
  obtain⟨z,hzi,rfl⟩:=Option.map_eq_some_iff.1 hc
  refine⟨rfl,⟨_,.inr ⟨rfl,?_⟩,?_,rfl,rfl⟩,trivial⟩
  ·have:=(List.getElem?_eq_some_iff.1 hzi).1;omega
  ·have:=hcell i z hzi
   rwa [show 0+i*1=i by omega]
theorem cut_one(c:UInt8):∀l:List UInt8,Lib.cut l [c]=match cutL c l with
  | some (x,y)=>(x,y,true)
  | none=>(l,[],false)
 | []=>rfl
 | b :: t => by
  have ih:=cut_one c t
  have hg:=index_ge t [c]
  unfold Lib.cut at ih ⊢
  unfold index
  by_cases hb:b=c
  ·subst hb
   simp[List.isPrefixOf,cutL]
  ·have hp:List.isPrefixOf [c] (b::t)=false:=by simp[List.isPrefixOf,Ne.symm hb]
   rw[hp]
   simp only[Bool.false_eq_true,if_false]
   rw[cutL,if_neg hb]
   by_cases hi:index t [c]= -1
   ·rw[hi] at ih
    simp only[show ¬(0:Int)≤ -1 by omega,if_false] at ih
    cases hc:cutL c t with
    | none=>simp[hi]
    | some q=>rw[hc] at ih;simp at ih
   ·have hi0:0≤index t [c]:=by omega
    have hne:(index t [c]== -1)=false:=by simpa using hi
    rw[if_pos hi0] at ih
    rw[hne]
    simp only[Bool.false_eq_true,if_false]
    rw[if_pos (by omega)]
    obtain⟨n,hn⟩:∃n:Nat,index t [c]=n:=⟨(index t [c]).toNat,by omega⟩
    rw[hn] at ih ⊢
    have e1:((n:Int)+1).toNat=n+1:=by omega
    rw[e1]
    cases hc:cutL c t with
    | none=>rw[hc] at ih;simp at ih
    | some q=>
     rw[hc] at ih
     simp only[Int.toNat_natCast,Prod.mk.injEq,and_true] at ih
     obtain⟨i1,i2⟩:=ih
     simp only[Option.map_some,List.take_succ_cons]
     rw[i1,show n+1+[c].length=(n+[c].length)+1 from rfl,List.drop_succ_cons,i2]
def cutT(c:UInt8)(s:ByteArray):T:=match cutL c (bl s) with
 | some (x,y)=>.tup [.v (.str (bt' x)),.v (.str (bt' y)),.v (.bool true)]
 | none=>.tup [.v (.str s),.v (.str (bt' [])),.v (.bool false)]
theorem cut_fn(s:ByteArray)(hs:s.size≤100000000)(c:UInt8):Fn Tryz.prog (envX p) 125 [.v (.str s),.v (.str ⟨#[c]⟩)] (cutT c s):=by
 refine⟨enter_of (by kernel_rfl),fun w L vs hE hL ha=>?_⟩
 obtain⟨v,v',rfl,h,h'⟩:=two_args ha
 rw[show v=.string s from h,show v'=.string ⟨#[c]⟩ from h']
 obtain⟨m,hm⟩:=Env.ml hE
 refine(Shelf.strings_Cut s ⟨#[c]⟩ m w (by omega) hm).mono ?_
 rintro e w' ⟨rfl,n,rfl⟩
 have hb:=below_drewN w n
 refine⟨_,L,rfl,hb,Same.of_below hb,.inl,fun hl=>(by obtain⟨u,hu⟩:=hL hl;exact⟨u,cell_below hu hb⟩),?_⟩
 rw[cut_one c s.data.toList]
 unfold cutT
 cases cutL c s.data.toList with
 | none=>exact⟨_,rfl,_,_,rfl,rfl,_,_,rfl,rfl,_,_,rfl,rfl,rfl⟩
 | some q=>exact⟨_,rfl,_,_,rfl,rfl,_,_,rfl,rfl,_,_,rfl,rfl,rfl⟩
theorem type_fn(s:ByteArray):Fn Tryz.prog (envX p) 19 [.v (.str s)] (.v (.bool (Dn.typeB (bl s)))):=
 Fn.of_plain (enter_of (by kernel_rfl)) rfl fun w L vs hE ha=>by
  obtain⟨v,rfl,h⟩:=one_arg ha
  rw[show v=.string s from h]
  exact Dn.type_calls s w p hE
def otherR(r:Nat):Bool:= !((decide (97≤r)&&decide (r≤122))||(decide (65≤r)&&decide (r≤90))||(decide (48≤r)&&decide (r≤57))||decide (r=45))
theorem other_fn(r:Nat):Fn Tryz.prog noX 154 [.v (.int .i32 (r:Nat))] (.v (.bool (otherR r))):=by
 unfold otherR
 refine fn_prog tabOk mixed Tryz.f154 Tryz.func154 (by kernel_rfl) (by kernel_rfl) ?_
 conv=>whnf
 (repeat' (first | (refine⟨rfl,cmp_split (fun h=>?_) (fun h=>?_)⟩ <;> (conv=>whnf)) | fail))
 all_goals
  refine⟨.inl (congrArg V.bool ?_),rfl⟩
  simp
  omega
theorem other_grows(w:World):PredGrows Tryz.prog 154 #[] otherR w:=fun W r _ hb=>by
 refine(Fn.use (other_fn r) trivial (vs:=[.int .i32 (r:Nat)]) ⟨_,_,rfl,rfl,rfl⟩).mono ?_
 rintro e w' ⟨v,L',rfl,hb,hr⟩
 exact⟨congrArg Ending.returned hr,hb⟩
theorem containsFunc_fn(s:ByteArray):Fn Tryz.prog (envX p) 92 [.v (.str s),.fn 154 []] (.v (.bool (!(bl s).all Dn.keyRest))):=
 Fn.of_plain (enter_of (by kernel_rfl)) rfl fun w L vs hE ha=>by
  obtain⟨v,v',rfl,h,cs,rfl,h'⟩:=two_args ha
  rw[show v=.string s from h,show cs=#[] from Array.toList_inj.1 (show cs.toList=[] from h')]
  refine(Any.strings_ContainsFunc_grows Shelf.LaysGwn17 154 #[] (enters_of Tryz.func154 (by kernel_rfl) rfl) otherR s w (other_grows w)).mono ?_
  rintro e w' ⟨rfl,hb⟩
  refine⟨?_,hb⟩
  rw[Txt.idx_any otherR (fun r h=>by unfold otherR;simp;omega) s]
  rw[List.not_all_eq_any_not]
  congr 3
theorem option_fn(s:ByteArray):Fn Tryz.prog (envX p) 116 [.v (.str s)] (.v (.bool (optB (bl s)))):=by
 refine fn_prog tabOk mixed Tryz.f116 Tryz.func116 (by kernel_rfl) (by kernel_rfl) ?_
 conv=>whnf
 refine cmp_split (fun h=>?_) (fun h=>?_)
 ·conv=>whnf
  (refine st_call (containsFunc_fn p s) ?_ rfl rfl ?_;(focus ((repeat' first|exact trivial|exact rfl|exact .inl rfl|exact .inr ⟨rfl,rfl⟩|refine And.intro ?_ ?_);done));conv=>whnf)
  have h2:bl s≠[]:=fun e=>h (by rw[show s=bt' (bl s) from(bl_bt s).symm,e];rfl)
  refine⟨.inl (congrArg V.bool ?_),rfl⟩
  unfold optB
  cases hb:bl s with
  | nil=>exact absurd hb h2
  | cons c t=>simp
 ·conv=>whnf
  have h2:s=bt' []:=Classical.not_not.1 h
  subst h2
  exact⟨.inl rfl,rfl⟩
theorem split_len(c:UInt8):∀l:List UInt8,(Txt.splitOn c l).length≤l.length+1
 | []=>Nat.le_refl _
 | x::t=>by
  have ih:=split_len c t
  rw[Txt.splitOn]
  split
  ·simp;omega
  ·split
   ·simp
   ·rename_i h r e;rw[e] at ih;simp at ih ⊢;omega
theorem name_fn(s:ByteArray)(hs:s.size≤100000000):Fn Tryz.prog (envX p) 83 [.v (.str s)] (.v (.bool (nameB (bl s)))):=by
 have hlen:(Txt.splitOn 59 (bl s)).length≤s.size+1:=by have:=split_len 59 (bl s);rw[Txt.size_list] at this;exact this
 obtain⟨t,r,hsp⟩:∃t r,Txt.splitOn 59 (bl s)=t::r:=by
  cases h:Txt.splitOn 59 (bl s) with
  | nil=>exact absurd h (Txt.splitOn_ne 59 _)
  | cons t r=>exact⟨t,r,rfl⟩
 have hspl:spl 59 s=bt' t::r.map bt':=by unfold spl;rw[hsp];rfl
 have hnm:nameB (bl s)=(decide (s.size≤30)&&(Dn.typeB t&&r.all optB)):=by
  unfold nameB
  rw[hsp,Txt.size_list]
 rw[hsp,List.length_cons] at hlen
 refine fn_prog tabOk mixed Tryz.f83 Tryz.func83 (by kernel_rfl) (by kernel_rfl) ?_
 conv=>whnf
 (refine st_call (split_fn p s hs 59) ?_ rfl rfl ?_;(focus ((repeat' first|exact trivial|exact rfl|exact .inl rfl|exact .inr ⟨rfl,rfl⟩|refine And.intro ?_ ?_);done));conv=>whnf)
 rw[hspl]
 refine⟨rfl,cmp_split (fun h=>?_) (fun h=>?_)⟩
 ·conv=>whnf
  exact⟨.inl (congrArg V.bool (by rw[hnm,decide_eq_false (by omega)];rfl)),rfl⟩
 conv=>whnf
 refine⟨encS (bt' t),by omega,rfl,rfl,?_⟩
 conv=>whnf
 refine st_callB (type_fn p (bt' t)) ⟨.inl rfl,trivial⟩ rfl (fun hT=>?_) (fun hT=>?_)
 rotate_left
 ·conv=>whnf
  rw[bl_of] at hT
  exact⟨.inl (congrArg V.bool (by rw[hnm,hT];simp)),rfl⟩
 rw[bl_of] at hT
 rw[decide_eq_true (by omega),hT,Bool.true_and,Bool.true_and] at hnm
 conv=>whnf
 refine st_sub 1 (r.length+1) rfl (by simp) (by omega) (by simp) (fun c hc=>by obtain⟨z,_,rfl⟩:=List.mem_map.1 hc;rfl) (z:=(r.map bt').map encS) (by rw[List.take_of_length_le (by simp)];rfl) ?_
 conv=>whnf
 refine⟨Nat,fun i=>⟨29,[(19,.v (.sl ((r.map bt').map encS))),(20,.v (.int .i64 (((r.map bt').map encS).length:Nat))),(21,.v (.int .i64 (i:Nat)))],[],[]⟩,fun i=>i≤r.length∧(r.take i).all optB=true,fun i=>r.length - i,⟨0,[],⟨by omega,rfl⟩,?_⟩,fun i ⟨hi,ha⟩=>?_⟩
 ·exact⟨rfl,rfl,⟨.inl rfl,.inl rfl,.inl rfl,trivial⟩,trivial,trivial⟩
 conv=>whnf
 refine⟨rfl,cmp_split (fun h=>?_) (fun h=>?_)⟩
 ·rw[List.length_map,List.length_map] at h
  have hil:i < r.length:=by omega
  have hil':i < (r.map bt').length:=by rw[List.length_map];exact hil
  conv=>whnf
  refine st_idx hil' rfl ?_
  rw[List.getElem_map]
  conv=>whnf
  refine st_callB (option_fn p (bt' r[i])) ⟨.inl rfl,trivial⟩ rfl (fun hT=>?_) (fun hT=>?_)
  ·rw[bl_of] at hT
   conv=>whnf
   refine⟨rfl,st_succ (by omega) ?_⟩
   conv=>whnf
   refine⟨i+1,[],⟨by omega,?_⟩,by dsimp only;omega,?_⟩
   ·rw[all_take_succ _ _ _ hil,ha,hT];rfl
   ·exact⟨rfl,rfl,⟨.inl rfl,.inl rfl,.inl rfl,trivial⟩,trivial,trivial⟩
  ·rw[bl_of] at hT
   conv=>whnf
   exact⟨.inl (congrArg V.bool (hnm.trans (all_bad hil hT)).symm),rfl⟩
 ·rw[List.length_map,List.length_map] at h
  conv=>whnf
  rw[List.take_of_length_le (by omega)] at ha
  exact⟨.inl (congrArg V.bool (hnm.trans ha).symm),rfl⟩
end Go.Proofs.YtknelogmocedeaaGreatDoor.Fi
namespace Go.Proofs.YtknelogmocedeaaGreatDoor.AsPart
open Go.RowKit Go.Extern.Stop Go.Stop Go.Extern AsG
theorem ok:Ok 148 150:=by
 refine⟨?_,?_,?_,?_,?_,?_,?_,?_,?_,?_,?_,?_,?_,?_,?_,Tryz.underlying150,?_⟩
 ·intros;kernel_rfl
 ·intros;kernel_rfl
 ·intros;kernel_rfl
 ·intros;kernel_rfl
 ·intros;kernel_rfl
 ·intros;kernel_rfl
 ·intros;kernel_rfl
 ·intros;kernel_rfl
 ·intros;kernel_rfl
 ·intros;kernel_rfl
 ·intros;kernel_rfl
 ·intros;kernel_rfl
 ·intros;kernel_rfl
 ·intros;kernel_rfl
 ·intros;kernel_rfl
 ·intro g b old0 x fr V hx hb ht
  have hl:=run_loadVar_row (P:=Tryz.prog) V b 148 148 #[x] fr _ hb Tryz.underlying148 rfl (by kernel_rfl)
  have hs:=run_storeVar_row (P:=Tryz.prog) V g 148 148 #[old0] #[x] ht (by kernel_rfl) rfl (by simp[hx])
  have p1:∀(a:Addr) (w:World),(ReflectliteValue.parts (.agg #[.pointer (some ⟨19,148,none⟩),.pointer (some a),.int .u64 409])).run Tryz.prog w=.ok (some (148,a,409)) w:=by intros;kernel_rfl
  have p2:∀(a:Addr) (w:World),(ReflectliteValue.parts (.agg #[.pointer (some ⟨19,148,none⟩),.pointer (some a),.int .u64 153])).run Tryz.prog w=.ok (some (148,a,153)) w:=by intros;kernel_rfl
  have p3:∀w:World,(Rtype.directlyAssignable 148 148).run Tryz.prog w=.ok true w:=by intros;kernel_rfl
  rw[rls]
  simp only[Sem.run_bind,p1,p2,Result.andThen]
  simp[ReflectliteValue.flagAddr,hl,hs,Result.andThen,p3]
theorem as_hit(g:Nat)(old0 x:Value)(w:World)(hx:x.oneCell'=true)(hg:w.cell? ⟨7,0,none⟩=some (.iface 263 (.agg #[.pointer (some ⟨19,98,none⟩)])))(ht:w.heap[g]? =some (.cells #[old0] 148 (0,0))):
  Calls Tryz.prog 85 #[.iface 148 (.agg #[x]),.iface 150 (.pointer (some ⟨g,0,none⟩))] w fun ev w'=>ev=.returned (.bool true)∧Below g w w'∧w'.heap[g]? =some (.cells #[x] 148 (0,0)):=AsG.as_hit ok g old0 x w hx hg ht
theorem as_nil(g:Nat)(old0:Value)(w:World)(ht:w.heap[g]? =some (.cells #[old0] 148 (0,0))):
  Calls Tryz.prog 85 #[.nilIface,.iface 150 (.pointer (some ⟨g,0,none⟩))] w fun ev w'=>ev=.returned (.bool false)∧Below w.heap.size w w':=AsG.as_nil 148 150 g old0 w ht
end Go.Proofs.YtknelogmocedeaaGreatDoor.AsPart
namespace Go.Proofs.YtknelogmocedeaaGreatDoor.IsPart
open Go.RowKit Go.Extern.Stop Go.Stop Go.Extern
theorem isTypeOf(v:Value)(w:World):(Extern.ReflectliteType.typeOf #[.iface 348 v]).run Tryz.prog w=.ok (.iface 263 (.agg #[.pointer (some ⟨19,348,none⟩)])) w:=by kernel_rfl
def cmpEntry:Array Value→Sem Value:=Extern.ReflectliteType.method fun t=>do Rtype.noPackHeld "Comparable" t;pure (.bool (←typeInfo t).comparable)
theorem isComparable(w:World):(cmpEntry #[.agg #[.pointer (some ⟨19,348,none⟩)]]).run Tryz.prog w=.ok (.bool true) w:=by kernel_rfl
theorem isMethodComparable(v:Value)(w:World):(Go.method 477 263 v "Comparable").run Tryz.prog w=.ok (246,v) w:=by kernel_rfl
theorem isComp:(Tryz.prog.info? 348).map (·.comparable)=some true:=by kernel_rfl
theorem isSize:(Tryz.prog.info? 366).map (·.size)=some 1:=by kernel_rfl
theorem noIsE(v:Value)(xT:TypeId)(w:World):(Instr.typeAssert (.iface 348 v) xT 274 true).run Tryz.prog w=.ok (.tuple #[.nilIface,.bool false]) w:=run_typeAssert_lacksB Tryz.underlying274 (by kernel_rfl) (by kernel_rfl) v xT w
theorem noUnwrapE(v:Value)(xT:TypeId)(w:World):(Instr.typeAssert (.iface 348 v) xT 270 true).run Tryz.prog w=.ok (.tuple #[.nilIface,.bool false]) w:=run_typeAssert_lacksB Tryz.underlying270 (by kernel_rfl) (by kernel_rfl) v xT w
theorem noUnwrapsE(v:Value)(xT:TypeId)(w:World):(Instr.typeAssert (.iface 348 v) xT 271 true).run Tryz.prog w=.ok (.tuple #[.nilIface,.bool false]) w:=run_typeAssert_lacksB Tryz.underlying271 (by kernel_rfl) (by kernel_rfl) v xT w
theorem noIsW(v:Value)(xT:TypeId)(w:World):(Instr.typeAssert (.iface 148 v) xT 274 true).run Tryz.prog w=.ok (.tuple #[.nilIface,.bool false]) w:=run_typeAssert_lacksB Tryz.underlying274 (by kernel_rfl) (by kernel_rfl) v xT w
theorem hasUnwrapW(v:Value)(xT:TypeId)(w:World):(Instr.typeAssert (.iface 148 v) xT 270 true).run Tryz.prog w=.ok (.tuple #[.iface 148 v,.bool true]) w:=run_typeAssert_hasB Tryz.underlying270 (by kernel_rfl) v xT w
theorem methodUnwrap(v:Value)(w:World):(Go.method 477 148 v "Unwrap").run Tryz.prog w=.ok (233,v) w:=by kernel_rfl
set_option maxRecDepth 100000 in
set_option maxHeartbeats 4000000 in
theorem is_same(x:Value)(b:Addr)(w:World)(hg:w.cell? ⟨1,0,none⟩=some (.iface 348 (.pointer (some b)))):
  Calls Tryz.prog 86 #[.iface 148 (.agg #[x]),.iface 348 (.pointer (some b))] w fun e w'=>e=.returned (.bool true)∧w.alloc (.cells #[x] 148)=w':=by
 obtain⟨i,hi,hcmp⟩:=Option.map_eq_some_iff.1 isComp
 obtain⟨j,hj,hjs⟩:=Option.map_eq_some_iff.1 isSize
 have h8:= @run_callFunc_extern Tryz.prog 121 _ Extern.ReflectliteType.typeOf Tryz.func121 (by kernel_rfl) (by kernel_rfl) (by kernel_rfl) (by kernel_rfl)
 have h32:= @run_callFunc_extern Tryz.prog 246 _ cmpEntry Tryz.func246 (by kernel_rfl) (by kernel_rfl) (by kernel_rfl) (by kernel_rfl)
 have tT:=isTypeOf
 have cT:=isComparable
 have mR:=isMethodComparable
 have nE:=noIsE
 have uE:=noUnwrapE
 have vE:=noUnwrapsE
 have nW:=noIsW
 have uW:=hasUnwrapW
 have mU:=methodUnwrap
 have heq:=run_eql_iface_ptr_same (P:=Tryz.prog) (w.alloc (.cells #[x] 148)) b Tryz.underlying98 Tryz.underlying348 hi hcmp hj
 have hty:=run_eql_iface_types (P:=Tryz.prog) 148 348 (.agg #[x]) (.pointer (some b)) Tryz.underlying98 (by decide) w
 clear hi hcmp hj hjs
 have hlt:=World.block_lt_of_cell? w _ hg
 go_enter Tryz.func86,Tryz.ntmps86
 go_wp2
 refine wp_loop_rounds 2 ?_
 rw[rounds_succ]
 go_wp2
 rw[rounds_succ]
 go_wp2
 go_ret
 exact⟨rfl,rfl⟩
set_option maxRecDepth 100000 in
theorem is_nil(b:Addr)(w:World):
  Calls Tryz.prog 86 #[.nilIface,.iface 348 (.pointer (some b))] w fun e w'=>e=.returned (.bool false)∧w=w':=by
 have hnl:=fun w=>run_eql_iface_nil_left (P:=Tryz.prog) (w:=w) 348 (.pointer (some b)) Tryz.underlying98
 go_enter Tryz.func86,Tryz.ntmps86
 go_wp2
 go_ret
 exact⟨rfl,rfl⟩
end Go.Proofs.YtknelogmocedeaaGreatDoor.IsPart
namespace Go.Proofs.YtknelogmocedeaaGreatDoor.ToldPart
open Go.RowKit
theorem told_nil(w:World)(p:Nat→Addr)(h:Globs w p):Calls Tryz.prog 45 #[.nilIface] w fun e w'=>e=.returned (.int .i64 0)∧Below w.heap.size w w':=by
 have k0:=h.cell 1 (by decide)
 have hlt:=World.block_lt_of_cell? w _ k0
 clear h
 go_enter Tryz.func45,Tryz.ntmps45
 go_wp2_with fail
 have h1:=Aside.mk (below_new w (.cells #[.string ⟨#[]⟩] 148))
 refine(AsPart.as_nil w.heap.size (.string ⟨#[]⟩) _ (World.alloc_heap_new w _)).mono ?_
 rintro e w0 ⟨rfl,hb⟩
 have H0:=Aside.mk (below_then h1.out hb)
 clear hb
 go_wp2
 go_ret
 exact⟨rfl,H0.out⟩
set_option maxHeartbeats 1000000 in
theorem told_wrong(x:Value)(hx:x.oneCell'=true)(w:World)(p:Nat→Addr)(h:Globs w p):
  Calls Tryz.prog 45 #[.iface 148 (.agg #[x])] w fun e w'=>e=.returned (.int .i64 100)∧Below w.heap.size w w':=by
 have k0:=h.cell 1 (by decide)
 have hlt:=World.block_lt_of_cell? w _ k0
 go_enter Tryz.func45,Tryz.ntmps45
 go_wp2_with fail
 have h1:Below w.heap.size w (w.alloc (.cells #[.string ⟨#[]⟩] 148)):=below_new _ _
 refine(AsPart.as_hit w.heap.size (.string ⟨#[]⟩) x _ hx (h.below h1).et (World.alloc_heap_new w _)).mono ?_
 rintro e w0 ⟨rfl,hb,hc⟩
 have H0:=Aside.mk (h1.trans hb)
 have h0:=h.below H0.out
 clear h h1 hb hc k0 hlt
 have k0:=h0.cell 1 (by decide)
 have hlt:=World.block_lt_of_cell? w0 _ k0
 go_wp2_with fail
 refine(IsPart.is_same x _ _ k0).mono ?_
 rintro e w1 ⟨rfl,hb⟩
 have H1:=Aside.mk (show Below w.heap.size w w1 from below_then H0.out (by rw[←hb];exact below_new _ _))
 clear k0 hb hlt
 go_wp2
 go_ret
 exact⟨rfl,H1.out⟩
end Go.Proofs.YtknelogmocedeaaGreatDoor.ToldPart
namespace Go.Proofs.YtknelogmocedeaaGreatDoor.Pa
open Go.RowKit Go.Shelf Go.Lib Tl Pr
open Fl (bl bt' bl_bt bl_of size_bl)
open Fi (one_arg encS all_take_succ all_bad)
set_option linter.unusedVariables false
variable {X : En} (p : Nat → Addr)
def paErr(s:ByteArray):V:=.ifc 148 (.agg [.str s])
theorem told_nil_fn:Fn Tryz.prog (envX p) 45 [.v .nili] (.v (.int .i64 0)):=
 Fn.of_plain (enter_of (by kernel_rfl)) rfl fun w L vs hE ha=>by
  obtain⟨v,rfl,h⟩:=one_arg ha
  rw[show v=.nilIface from h]
  exact ToldPart.told_nil w p hE.gl
theorem told_wrong_fn(s:ByteArray):Fn Tryz.prog (envX p) 45 [.v (paErr s)] (.v (.int .i64 100)):=
 Fn.of_plain (enter_of (by kernel_rfl)) rfl fun w L vs hE ha=>by
  obtain⟨v,rfl,h⟩:=one_arg ha
  obtain⟨u,rfl,cs,rfl,h1⟩:=h
  obtain⟨u,us,h2,_,h3,h4⟩:=h1
  have:cs=#[.string s]:=by
   rw[show us=[] from h4,show u=_ from h3] at h2
   exact Array.toList_inj.1 h2
  rw[this]
  exact ToldPart.told_wrong (.string s) rfl w p hE.gl
def errU(nm:ByteArray)(b:Bool):V:=if b=true then .nili else paErr nm
theorem unless_fn(nm:ByteArray)(l:List Bool)(hl:l.length≤1000000000):Fn Tryz.prog X 82 [.v (.str nm),.v (.sl (l.map fun b=>[V.bool b]))] (.v (errU nm (l.all id))):=by
 refine fn_prog tabOk mixed Tryz.f82 Tryz.func82 (by kernel_rfl) (by kernel_rfl) ?_
 conv=>whnf
 refine⟨Nat,fun i=>⟨19,[(0,.v (.str nm)),(7,.v (.sl (l.map fun b=>[V.bool b]))),(8,.v (.int .i64 ((l.map fun b=>[V.bool b]).length:Nat))),(9,.v (.int .i64 (i:Nat)))],[],[]⟩,fun i=>i≤l.length∧(l.take i).all id=true,fun i=>l.length - i,⟨0,[],⟨by omega,rfl⟩,?_⟩,fun i ⟨hi,ha⟩=>?_⟩
 ·(focus ((repeat' first|exact trivial|exact rfl|exact .inl rfl|exact .inr ⟨rfl,rfl⟩|refine And.intro ?_ ?_);done))
 conv=>whnf
 refine⟨rfl,cmp_split (fun h=>?_) (fun h=>?_)⟩
 ·rw[List.length_map] at h
  have hil:i < l.length:=by omega
  conv=>whnf
  refine st_idx hil rfl ?_
  have ht:=all_take_succ id l i hil
  rw[ha] at ht
  cases hb:l[i]
  ·conv=>whnf
   unfold errU
   rw[if_neg (by rw[all_bad hil (by simpa using hb)];decide)]
   (focus ((repeat' first|exact trivial|exact rfl|exact .inl rfl|exact .inr ⟨rfl,rfl⟩|refine And.intro ?_ ?_);done))
  ·rw[hb] at ht
   conv=>whnf
   refine⟨rfl,st_succ (by omega) ?_⟩
   conv=>whnf
   refine⟨i+1,[],⟨by omega,ht⟩,by dsimp only;omega,?_⟩
   (focus ((repeat' first|exact trivial|exact rfl|exact .inl rfl|exact .inr ⟨rfl,rfl⟩|refine And.intro ?_ ?_);done))
 ·rw[List.length_map] at h
  conv=>whnf
  rw[List.take_of_length_le (by omega)] at ha
  unfold errU
  rw[if_pos ha]
  (focus ((repeat' first|exact trivial|exact rfl|exact .inl rfl|exact .inr ⟨rfl,rfl⟩|refine And.intro ?_ ?_);done))
theorem short_fn(n:Nat)(l:List ByteArray)(hl:l.length≤1000000000):Fn Tryz.prog X 84 [.v (.int .i64 (n:Nat)),.v (.sl (l.map encS))] (.v (.bool (allSz n l))):=by
 refine fn_prog tabOk mixed Tryz.f84 Tryz.func84 (by kernel_rfl) (by kernel_rfl) ?_
 conv=>whnf
 refine⟨Nat,fun i=>⟨18,[(0,.v (.int .i64 (n:Nat))),(7,.v (.sl (l.map encS))),(8,.v (.int .i64 ((l.map encS).length:Nat))),(9,.v (.int .i64 (i:Nat)))],[],[]⟩,fun i=>i≤l.length∧allSz n (l.take i)=true,fun i=>l.length - i,⟨0,[],⟨by omega,rfl⟩,?_⟩,fun i ⟨hi,ha⟩=>?_⟩
 ·(focus ((repeat' first|exact trivial|exact rfl|exact .inl rfl|exact .inr ⟨rfl,rfl⟩|refine And.intro ?_ ?_);done))
 conv=>whnf
 refine⟨rfl,cmp_split (fun h=>?_) (fun h=>?_)⟩
 ·rw[List.length_map] at h
  have hil:i < l.length:=by omega
  conv=>whnf
  refine st_idx hil rfl ?_
  conv=>whnf
  refine⟨rfl,cmp_split (fun h2=>?_) (fun h2=>?_)⟩
  ·conv=>whnf
   unfold allSz
   exact⟨.inl (congrArg V.bool (all_bad hil (decide_eq_false (by omega))).symm),rfl⟩
  ·conv=>whnf
   refine⟨rfl,st_succ (by omega) ?_⟩
   conv=>whnf
   refine⟨i+1,[],⟨by omega,?_⟩,by dsimp only;omega,?_⟩
   ·unfold allSz at*
    rw[all_take_succ _ _ _ hil,ha,Bool.true_and];exact decide_eq_true (by omega)
   ·(focus ((repeat' first|exact trivial|exact rfl|exact .inl rfl|exact .inr ⟨rfl,rfl⟩|refine And.intro ?_ ?_);done))
 ·rw[List.length_map] at h
  conv=>whnf
  rw[List.take_of_length_le (by omega)] at ha
  exact⟨.inl (congrArg V.bool ha.symm),rfl⟩
theorem type_ne{l:List UInt8}(h:Dn.typeB l=true):l≠[]:=by
 rintro rfl
 exact absurd h (by decide)
theorem oid_fn(s:ByteArray):Fn Tryz.prog (envX p) 18 [.v (.str s)] (.v (.bool (oidB s))):=by
 have ht:=Dn.type_fn p s
 have hs:=size_bl s
 have ho:oidB s=(Dn.typeB (bl s)&&match bl s with | []=>false | b::_=>decide (48≤b.toNat∧b.toNat≤57)):=rfl
 cases hb:Dn.typeB (bl s)
 ·rw[hb] at ht ho
  rw[show oidB s=false from ho]
  refine fn_prog tabOk mixed Tryz.f18 Tryz.func18 (by kernel_rfl) (by kernel_rfl) ?_
  conv=>whnf
  (refine st_call ht ?_ rfl rfl ?_;(focus ((repeat' first|exact trivial|exact rfl|exact .inl rfl|exact .inr ⟨rfl,rfl⟩|refine And.intro ?_ ?_);done));conv=>whnf)
  (focus ((repeat' first|exact trivial|exact rfl|exact .inl rfl|exact .inr ⟨rfl,rfl⟩|refine And.intro ?_ ?_);done))
 ·rw[hb] at ht ho
  obtain⟨b,r,hbr⟩:∃b r,bl s=b::r:=List.exists_cons_of_ne_nil (type_ne hb)
  have hi:s.data.toList[((0:Nat):Int).toNat]? =some b:=by show(bl s)[0]? =_;rw[hbr];rfl
  rw[hbr] at ho
  rw[show oidB s=decide (48≤b.toNat∧b.toNat≤57) from ho]
  refine fn_prog tabOk mixed Tryz.f18 Tryz.func18 (by kernel_rfl) (by kernel_rfl) ?_
  conv=>whnf
  (refine st_call ht ?_ rfl rfl ?_;(focus ((repeat' first|exact trivial|exact rfl|exact .inl rfl|exact .inr ⟨rfl,rfl⟩|refine And.intro ?_ ?_);done));conv=>whnf)
  refine⟨b,by omega,hi,?_⟩
  conv=>whnf
  refine⟨rfl,cmp_split (fun h=>?_) (fun h=>?_)⟩
  ·conv=>whnf
   refine⟨b,by omega,hi,?_⟩
   conv=>whnf
   refine⟨rfl,cmp_split (fun h2=>?_) (fun h2=>?_)⟩
   ·conv=>whnf
    rw[show decide (48≤b.toNat∧b.toNat≤57)=true from decide_eq_true (by omega)]
    (focus ((repeat' first|exact trivial|exact rfl|exact .inl rfl|exact .inr ⟨rfl,rfl⟩|refine And.intro ?_ ?_);done))
   ·conv=>whnf
    rw[show decide (48≤b.toNat∧b.toNat≤57)=false from decide_eq_false (by omega)]
    (focus ((repeat' first|exact trivial|exact rfl|exact .inl rfl|exact .inr ⟨rfl,rfl⟩|refine And.intro ?_ ?_);done))
  ·conv=>whnf
   rw[show decide (48≤b.toNat∧b.toNat≤57)=false from decide_eq_false (by omega)]
   (focus ((repeat' first|exact trivial|exact rfl|exact .inl rfl|exact .inr ⟨rfl,rfl⟩|refine And.intro ?_ ?_);done))
theorem dn_fn(s:ByteArray)(hs:s.size≤1000000):Fn Tryz.prog (envX p) 17 [.v (.str s)] (.v (.bool (dnB s))):=by
 have ht:=Dn.parse_fn p s hs
 unfold dnB
 refine fn_prog tabOk mixed Tryz.f17 Tryz.func17 (by kernel_rfl) (by kernel_rfl) ?_
 conv=>whnf
 cases hb:Dn.parsedOk s
 ·rw[hb] at ht
  (refine st_call ht ?_ rfl rfl ?_;(focus ((repeat' first|exact trivial|exact rfl|exact .inl rfl|exact .inr ⟨rfl,rfl⟩|refine And.intro ?_ ?_);done));conv=>whnf)
  refine⟨rfl,cmp_false (by decide) ?_⟩
  conv=>whnf
  (focus ((repeat' first|exact trivial|exact rfl|exact .inl rfl|exact .inr ⟨rfl,rfl⟩|refine And.intro ?_ ?_);done))
 ·rw[hb] at ht
  (refine st_call ht ?_ rfl rfl ?_;(focus ((repeat' first|exact trivial|exact rfl|exact .inl rfl|exact .inr ⟨rfl,rfl⟩|refine And.intro ?_ ?_);done));conv=>whnf)
  refine⟨rfl,cmp_true (by decide) ?_⟩
  conv=>whnf
  refine⟨rfl,cmp_split (fun h=>?_) (fun h=>?_)⟩
  ·conv=>whnf
   rw[show decide (s.size≤200)=true from decide_eq_true (by omega)]
   (focus ((repeat' first|exact trivial|exact rfl|exact .inl rfl|exact .inr ⟨rfl,rfl⟩|refine And.intro ?_ ?_);done))
  ·conv=>whnf
   rw[show decide (s.size≤200)=false from decide_eq_false (by omega)]
   (focus ((repeat' first|exact trivial|exact rfl|exact .inl rfl|exact .inr ⟨rfl,rfl⟩|refine And.intro ?_ ?_);done))
theorem text_fn(s:ByteArray):Fn Tryz.prog X 47 [.v (.str s)] (.v (.agg (cM (leafN 4 s)))):=by
 refine fn_prog tabOk mixed Tryz.f47 Tryz.func47 (by kernel_rfl) (by kernel_rfl) ?_
 conv=>whnf
 (focus ((repeat' first|exact trivial|exact rfl|exact .inl rfl|exact .inr ⟨rfl,rfl⟩|refine And.intro ?_ ?_);done))
theorem number_fn(n:Int):Fn Tryz.prog (envX p) 62 [.v (.int .i64 n)] (.v (.agg (cM (numN n)))):=by
 have h:=int_fn p n
 unfold intT at h
 unfold numN intB
 refine fn_prog tabOk mixed Tryz.f62 Tryz.func62 (by kernel_rfl) (by kernel_rfl) ?_
 conv=>whnf
 cases hw:leastW n with
 | none=>
  rw[hw] at h
  (refine st_call h ?_ rfl rfl ?_;(focus ((repeat' first|exact trivial|exact rfl|exact .inl rfl|exact .inr ⟨rfl,rfl⟩|refine And.intro ?_ ?_);done));conv=>whnf)
  (focus ((repeat' first|exact trivial|exact rfl|exact .inl rfl|exact .inr ⟨rfl,rfl⟩|refine And.intro ?_ ?_);done))
 | some w=>
  rw[hw] at h
  (refine st_call h ?_ rfl rfl ?_;(focus ((repeat' first|exact trivial|exact rfl|exact .inl rfl|exact .inr ⟨rfl,rfl⟩|refine And.intro ?_ ?_);done));conv=>whnf)
  (focus ((repeat' first|exact trivial|exact rfl|exact .inl rfl|exact .inr ⟨rfl,rfl⟩|refine And.intro ?_ ?_);done))
theorem node_raw(t:Int)(A:Option Addr)(n c:Nat):Fn Tryz.prog X 46 [.v (.int .i64 t),.v (.raw (.slice A n c))] (.v (.agg [.int .i64 t,.str ⟨#[]⟩,.raw (.slice A n c)])):=by
 refine fn_prog tabOk mixed Tryz.f46 Tryz.func46 (by kernel_rfl) (by kernel_rfl) ?_
 conv=>whnf
 (focus ((repeat' first|exact trivial|exact rfl|exact .inl rfl|exact .inr ⟨rfl,rfl⟩|refine And.intro ?_ ?_);done))
theorem node_nil(t:Int):Fn Tryz.prog X 46 [.v (.int .i64 t),.v .nils] (.v (.agg [.int .i64 t,.str (bt' []),.nils])):=by
 refine fn_prog tabOk mixed Tryz.f46 Tryz.func46 (by kernel_rfl) (by kernel_rfl) ?_
 conv=>whnf
 (focus ((repeat' first|exact trivial|exact rfl|exact .inl rfl|exact .inr ⟨rfl,rfl⟩|refine And.intro ?_ ?_);done))
theorem node_fn(t:Int)(l:List Nd):Fn Tryz.prog X 46 [.v (.int .i64 t),.v (.sl (l.map cN))] (.v (.agg (cM (.mk t (bt' []) l)))):=by
 refine fn_prog tabOk mixed Tryz.f46 Tryz.func46 (by kernel_rfl) (by kernel_rfl) ?_
 conv=>whnf
 (focus ((repeat' first|exact trivial|exact rfl|exact .inl rfl|exact .inr ⟨rfl,rfl⟩|refine And.intro ?_ ?_);done))
theorem node_own(t:Int)(l:List Nd)(k:Nat){bs:List (Nat×List T)}{lv:List (Nat×Option Nat)}:FnI Tryz.prog X 46 [.v (.int .i64 t),.own k 29 (l.map cN)] bs lv (.sub k (.ag 29 [.int .i64 t,.str ⟨#[]⟩] (l.map cN) [])) bs lv []:=by
 refine .of_below (enter_of (by kernel_rfl)) fun w g vs hE hL ha=>?_
 obtain⟨v,us,rfl,h1,h2⟩:=ha
 obtain⟨u,rfl,r1,r2,r3⟩:=one_arg h2
 have r1':=r1
 obtain⟨A,c,e,r4,r5⟩:=r1'
 refine((node_raw t A _ c).2 w g.L [v,u] hE hL ⟨_,_,rfl,h1,_,_,rfl,e,rfl⟩).mono fun e' w' ⟨v',L',q1,q2,q3,q4,q5,q6⟩=>⟨v',L',q1,q2,q3,q4,q5,?_⟩
 obtain⟨cs,rfl,u1,us1,e1,o1,a1,u2,us2,rfl,o2,a2,u3,us3,rfl,o3,a3,a4⟩:=q6
 obtain rfl:us3=[]:=a4
 obtain rfl:u3=u:=(show u3=_ from a3).trans e.symm
 refine⟨[u1,u2],[],?_,⟨u1,[u2],rfl,o1,a1,u2,[],rfl,o2,a2,rfl⟩,rfl,?_,r3⟩
 ·show Value.agg cs=.agg [u1,u2,g.κ k].toArray
  rw[←r2,←e1]
 ·show Rep w' L' _ (g.κ k)
  rw[←r2]
  exact Rep.mono q3 _ _ r1
end Go.Proofs.YtknelogmocedeaaGreatDoor.Pa
namespace Go.Proofs.YtknelogmocedeaaGreatDoor.Pa
open Go.RowKit Go.Shelf Go.Lib Tl Pr
open Fl (bl bt' bl_bt bl_of size_bl)
open Fi (one_arg encS all_take_succ all_bad)
set_option linter.unusedVariables false
variable {X : En} (p : Nat → Addr)
def takC(t:Tk):List T:=[.v (.sl (t.1.map cN)),.v (.bool t.2)]
def nextT(tag:Int)(l:List Nd):T:=match nextL tag l with
 | some (x,_)=>.tup [.v (.agg (cM x)),.v (.bool true)]
 | none=>.tup [.v (.agg (cM nd0)),.v (.bool false)]
def restL(tag:Int)(l:List Nd):List Nd:=match nextL tag l with
 | some (_,r)=>r
 | none=>l
theorem next_fn(tag:Int)(l:List Nd)(hl:l.length≤100000000)(b:Bool):FnM Tryz.prog X 136 [takC (l,b)] [.ptr 0 0,.v (.int .i64 tag)] (nextT tag l) [takC (restL tag l,b)]:=by
 cases l with
 | nil=>
  refine fnM_prog tabOk mixed Tryz.f136 Tryz.func136 (by kernel_rfl) (by kernel_rfl) rfl rfl rfl rfl ?_
  conv=>whnf
  refine⟨rfl,cmp_true rfl ?_⟩
  conv=>whnf
  (focus ((repeat' first|exact trivial|exact rfl|exact .inl rfl|exact .inr ⟨rfl,rfl⟩|refine And.intro ?_ ?_);done))
 | cons x r=>
  unfold nextT restL
  rw[nextL]
  by_cases hx:x.tag=tag
  ·rw[if_pos hx]
   subst hx
   refine fnM_prog tabOk mixed Tryz.f136 Tryz.func136 (by kernel_rfl) (by kernel_rfl) rfl rfl rfl rfl ?_
   conv=>whnf
   refine⟨rfl,cmp_false (by simp;omega) ?_⟩
   conv=>whnf
   refine st_idxN (xs:=x::r) (i:=0) (by simp) ?_
   conv=>whnf
   refine⟨rfl,cmp_false (by simp) ?_⟩
   conv=>whnf
   refine st_idxN (xs:=x::r) (i:=0) (by simp) ?_
   conv=>whnf
   refine st_sub (z:=r.map cN) 1 (r.length+1) rfl (by simp) (by omega) (by simp) (by intro c hc;obtain⟨y,_,rfl⟩:=List.mem_map.1 hc;exact cN_len y) (by rw[List.map_cons,List.take_succ_cons,List.drop_succ_cons,List.drop_zero,List.take_of_length_le (by simp)]) ?_
   conv=>whnf
   (focus ((repeat' first|exact trivial|exact rfl|exact .inl rfl|exact .inr ⟨rfl,rfl⟩|refine And.intro ?_ ?_);done))
  ·rw[if_neg hx]
   refine fnM_prog tabOk mixed Tryz.f136 Tryz.func136 (by kernel_rfl) (by kernel_rfl) rfl rfl rfl rfl ?_
   conv=>whnf
   refine⟨rfl,cmp_false (by simp;omega) ?_⟩
   conv=>whnf
   refine st_idxN (xs:=x::r) (i:=0) (by simp) ?_
   conv=>whnf
   refine⟨rfl,cmp_true hx ?_⟩
   conv=>whnf
   (focus ((repeat' first|exact trivial|exact rfl|exact .inl rfl|exact .inr ⟨rfl,rfl⟩|refine And.intro ?_ ?_);done))
theorem end_fn(t:Tk):FnM Tryz.prog X 99 [takC t] [.ptr 0 0] (.v (.bool (decide (t.1=[])))) [takC t]:=by
 refine fnM_prog tabOk mixed Tryz.f99 Tryz.func99 (by kernel_rfl) (by kernel_rfl) rfl rfl rfl rfl ?_
 conv=>whnf
 refine⟨rfl,cmp_split (fun h=>?_) (fun h=>?_)⟩
 ·rw[List.length_map] at h
  conv=>whnf
  rw[show decide (t.1=[])=true from decide_eq_true (List.eq_nil_of_length_eq_zero (by omega))]
  (focus ((repeat' first|exact trivial|exact rfl|exact .inl rfl|exact .inr ⟨rfl,rfl⟩|refine And.intro ?_ ?_);done))
 ·rw[List.length_map] at h
  conv=>whnf
  rw[show decide (t.1=[])=false from decide_eq_false (fun e=>h (by rw[e];rfl))]
  (focus ((repeat' first|exact trivial|exact rfl|exact .inl rfl|exact .inr ⟨rfl,rfl⟩|refine And.intro ?_ ?_);done))
theorem isIn_fn(tag:Int)(t:Tk):FnM Tryz.prog X 97 [takC t] [.ptr 0 0,.v (.int .i64 tag)] (.v (.bool (isIn tag t))) [takC t]:=by
 obtain⟨l,b⟩:=t
 cases l with
 | nil=>
  refine fnM_prog tabOk mixed Tryz.f97 Tryz.func97 (by kernel_rfl) (by kernel_rfl) rfl rfl rfl rfl ?_
  conv=>whnf
  refine⟨rfl,cmp_false (by simp) ?_⟩
  conv=>whnf
  (focus ((repeat' first|exact trivial|exact rfl|exact .inl rfl|exact .inr ⟨rfl,rfl⟩|refine And.intro ?_ ?_);done))
 | cons x r=>
  refine fnM_prog tabOk mixed Tryz.f97 Tryz.func97 (by kernel_rfl) (by kernel_rfl) rfl rfl rfl rfl ?_
  conv=>whnf
  refine⟨rfl,cmp_true (by simp) ?_⟩
  conv=>whnf
  refine st_idxN (xs:=x::r) (i:=0) (by simp) ?_
  conv=>whnf
  refine⟨rfl,cmp_split (fun h=>?_) (fun h=>?_)⟩
  ·conv=>whnf
   rw[show isIn tag (x::r,b)=true from decide_eq_true h]
   (focus ((repeat' first|exact trivial|exact rfl|exact .inl rfl|exact .inr ⟨rfl,rfl⟩|refine And.intro ?_ ?_);done))
  ·conv=>whnf
   rw[show isIn tag (x::r,b)=false from decide_eq_false h]
   (focus ((repeat' first|exact trivial|exact rfl|exact .inl rfl|exact .inr ⟨rfl,rfl⟩|refine And.intro ?_ ?_);done))
def midT(t:Tk):Prop:=t.1.length≤100000000∧midNs t.1
theorem next_mid{tag:Int}{l r:List Nd}{x:Nd}(h:nextL tag l=some (x,r))(hm:midNs l):midN x∧midNs r:=by
 obtain⟨rfl,_⟩:=next_some h
 exact hm
theorem data_fn(tag:Int)(t:Tk)(hl:t.1.length≤100000000):FnM Tryz.prog X 96 [takC t] [.ptr 0 0,.v (.int .i64 tag)] (.v (.str (takeD tag t).1)) [takC (takeD tag t).2]:=by
 obtain⟨l,b⟩:=t
 have hn:=next_fn (X:=X) tag l hl b
 unfold nextT restL at hn
 unfold takeD
 dsimp only
 cases h:nextL tag l with
 | none=>
  rw[h] at hn
  cases b
  all_goals
   refine fnM_prog tabOk mixed Tryz.f96 Tryz.func96 (by kernel_rfl) (by kernel_rfl) rfl rfl rfl rfl ?_
   conv=>whnf
   (refine st_callM [34] (hn) rfl ?_ ?_ rfl ?_;(focus ((repeat' first|exact trivial|exact rfl|exact .inl rfl|exact .inr ⟨rfl,rfl⟩|refine And.intro ?_ ?_);done));(focus ((repeat' first|exact trivial|exact rfl|exact .inl rfl|exact .inr ⟨rfl,rfl⟩|refine And.intro ?_ ?_);done));conv=>whnf)
   (focus ((repeat' first|exact trivial|exact rfl|exact .inl rfl|exact .inr ⟨rfl,rfl⟩|refine And.intro ?_ ?_);done))
 | some q=>
  obtain⟨x,r⟩:=q
  rw[h] at hn
  dsimp only at hn ⊢
  cases b
  ·by_cases hk:0 < x.kids.length
   ·rw[show(false||decide (0 < x.kids.length))=true from decide_eq_true hk]
    refine fnM_prog tabOk mixed Tryz.f96 Tryz.func96 (by kernel_rfl) (by kernel_rfl) rfl rfl rfl rfl ?_
    conv=>whnf
    (refine st_callM [34] (hn) rfl ?_ ?_ rfl ?_;(focus ((repeat' first|exact trivial|exact rfl|exact .inl rfl|exact .inr ⟨rfl,rfl⟩|refine And.intro ?_ ?_);done));(focus ((repeat' first|exact trivial|exact rfl|exact .inl rfl|exact .inr ⟨rfl,rfl⟩|refine And.intro ?_ ?_);done));conv=>whnf)
    refine⟨rfl,cmp_true (by rw[List.length_map];omega) ?_⟩
    conv=>whnf
    (focus ((repeat' first|exact trivial|exact rfl|exact .inl rfl|exact .inr ⟨rfl,rfl⟩|refine And.intro ?_ ?_);done))
   ·rw[show(false||decide (0 < x.kids.length))=false from decide_eq_false hk]
    refine fnM_prog tabOk mixed Tryz.f96 Tryz.func96 (by kernel_rfl) (by kernel_rfl) rfl rfl rfl rfl ?_
    conv=>whnf
    (refine st_callM [34] (hn) rfl ?_ ?_ rfl ?_;(focus ((repeat' first|exact trivial|exact rfl|exact .inl rfl|exact .inr ⟨rfl,rfl⟩|refine And.intro ?_ ?_);done));(focus ((repeat' first|exact trivial|exact rfl|exact .inl rfl|exact .inr ⟨rfl,rfl⟩|refine And.intro ?_ ?_);done));conv=>whnf)
    refine⟨rfl,cmp_false (by rw[List.length_map];omega) ?_⟩
    conv=>whnf
    (focus ((repeat' first|exact trivial|exact rfl|exact .inl rfl|exact .inr ⟨rfl,rfl⟩|refine And.intro ?_ ?_);done))
  ·refine fnM_prog tabOk mixed Tryz.f96 Tryz.func96 (by kernel_rfl) (by kernel_rfl) rfl rfl rfl rfl ?_
   conv=>whnf
   (refine st_callM [34] (hn) rfl ?_ ?_ rfl ?_;(focus ((repeat' first|exact trivial|exact rfl|exact .inl rfl|exact .inr ⟨rfl,rfl⟩|refine And.intro ?_ ?_);done));(focus ((repeat' first|exact trivial|exact rfl|exact .inl rfl|exact .inr ⟨rfl,rfl⟩|refine And.intro ?_ ?_);done));conv=>whnf)
   (focus ((repeat' first|exact trivial|exact rfl|exact .inl rfl|exact .inr ⟨rfl,rfl⟩|refine And.intro ?_ ?_);done))
theorem number_taken(t:Tk)(hl:t.1.length≤100000000)(hs:(takeD 10 t).1.size≤1000000000):FnM Tryz.prog (envX p) 103 [takC t] [.ptr 0 0] (.v (.int .i64 (takeI t).1)) [takC (takeI t).2]:=by
 have hd:=data_fn (X:=envX p) 10 t hl
 have hr:=readInt_fn p _ hs
 unfold readT at hr
 unfold takeI
 generalize takeD 10 t=q at*
 obtain⟨s,l,b⟩:=q
 dsimp only at hd hr ⊢
 cases h:readI (bl s) with
 | none=>
  rw[h] at hr
  dsimp only at hr ⊢
  cases b
  ·refine fnM_prog tabOk mixed Tryz.f103 Tryz.func103 (by kernel_rfl) (by kernel_rfl) rfl rfl rfl rfl ?_
   conv=>whnf
   (refine st_callM [23] (hd) rfl ?_ ?_ rfl ?_;(focus ((repeat' first|exact trivial|exact rfl|exact .inl rfl|exact .inr ⟨rfl,rfl⟩|refine And.intro ?_ ?_);done));(focus ((repeat' first|exact trivial|exact rfl|exact .inl rfl|exact .inr ⟨rfl,rfl⟩|refine And.intro ?_ ?_);done));conv=>whnf)
   (refine st_call hr ?_ rfl rfl ?_;(focus ((repeat' first|exact trivial|exact rfl|exact .inl rfl|exact .inr ⟨rfl,rfl⟩|refine And.intro ?_ ?_);done));conv=>whnf)
   refine⟨rfl,cmp_true (by decide) ?_⟩
   conv=>whnf
   (focus ((repeat' first|exact trivial|exact rfl|exact .inl rfl|exact .inr ⟨rfl,rfl⟩|refine And.intro ?_ ?_);done))
  ·refine fnM_prog tabOk mixed Tryz.f103 Tryz.func103 (by kernel_rfl) (by kernel_rfl) rfl rfl rfl rfl ?_
   conv=>whnf
   (refine st_callM [23] (hd) rfl ?_ ?_ rfl ?_;(focus ((repeat' first|exact trivial|exact rfl|exact .inl rfl|exact .inr ⟨rfl,rfl⟩|refine And.intro ?_ ?_);done));(focus ((repeat' first|exact trivial|exact rfl|exact .inl rfl|exact .inr ⟨rfl,rfl⟩|refine And.intro ?_ ?_);done));conv=>whnf)
   (refine st_call hr ?_ rfl rfl ?_;(focus ((repeat' first|exact trivial|exact rfl|exact .inl rfl|exact .inr ⟨rfl,rfl⟩|refine And.intro ?_ ?_);done));conv=>whnf)
   (focus ((repeat' first|exact trivial|exact rfl|exact .inl rfl|exact .inr ⟨rfl,rfl⟩|refine And.intro ?_ ?_);done))
 | some n=>
  rw[h] at hr
  dsimp only at hr ⊢
  cases b
  ·refine fnM_prog tabOk mixed Tryz.f103 Tryz.func103 (by kernel_rfl) (by kernel_rfl) rfl rfl rfl rfl ?_
   conv=>whnf
   (refine st_callM [23] (hd) rfl ?_ ?_ rfl ?_;(focus ((repeat' first|exact trivial|exact rfl|exact .inl rfl|exact .inr ⟨rfl,rfl⟩|refine And.intro ?_ ?_);done));(focus ((repeat' first|exact trivial|exact rfl|exact .inl rfl|exact .inr ⟨rfl,rfl⟩|refine And.intro ?_ ?_);done));conv=>whnf)
   (refine st_call hr ?_ rfl rfl ?_;(focus ((repeat' first|exact trivial|exact rfl|exact .inl rfl|exact .inr ⟨rfl,rfl⟩|refine And.intro ?_ ?_);done));conv=>whnf)
   refine⟨rfl,cmp_false (by decide) ?_⟩
   conv=>whnf
   (focus ((repeat' first|exact trivial|exact rfl|exact .inl rfl|exact .inr ⟨rfl,rfl⟩|refine And.intro ?_ ?_);done))
  ·refine fnM_prog tabOk mixed Tryz.f103 Tryz.func103 (by kernel_rfl) (by kernel_rfl) rfl rfl rfl rfl ?_
   conv=>whnf
   (refine st_callM [23] (hd) rfl ?_ ?_ rfl ?_;(focus ((repeat' first|exact trivial|exact rfl|exact .inl rfl|exact .inr ⟨rfl,rfl⟩|refine And.intro ?_ ?_);done));(focus ((repeat' first|exact trivial|exact rfl|exact .inl rfl|exact .inr ⟨rfl,rfl⟩|refine And.intro ?_ ?_);done));conv=>whnf)
   (refine st_call hr ?_ rfl rfl ?_;(focus ((repeat' first|exact trivial|exact rfl|exact .inl rfl|exact .inr ⟨rfl,rfl⟩|refine And.intro ?_ ?_);done));conv=>whnf)
   (focus ((repeat' first|exact trivial|exact rfl|exact .inl rfl|exact .inr ⟨rfl,rfl⟩|refine And.intro ?_ ?_);done))
theorem all_drop(tag:Int):∀(l:List Nd),(allD tag l).1.length+(allD tag l).2.length=l.length∧(allD tag l).2=l.drop (allD tag l).1.length
 | []=>⟨rfl,rfl⟩
 | x::r=>by
  rw[allD]
  split
  ·obtain⟨h1,h2⟩:=all_drop tag r
   refine⟨by simp only[List.length_cons];omega,?_⟩
   simp only[List.length_cons,List.drop_succ_cons]
   exact h2
  ·exact⟨by simp,rfl⟩
theorem all_at(tag:Int):∀(l:List Nd) (i:Nat),i≤(allD tag l).1.length→(allD tag (l.drop i)).1=(allD tag l).1.drop i∧(allD tag (l.drop i)).2=(allD tag l).2
 | l,0,_=>⟨rfl,rfl⟩
 | [],i+1,h=>by simp[allD] at h
 | x::r,i+1,h=>by
  rw[allD] at h
  split at h
  ·rename_i hx
   have:=all_at tag r i (by simpa using h)
   rw[allD,if_pos hx]
   exact⟨by simpa using this.1,by simpa using this.2⟩
  ·simp at h
theorem all_it(tag:Int)(l:List Nd)(hl:l.length≤100000000)(b:Bool):ItM Tryz.prog X 169 [[.ptr 2 0],[.v (.int .i64 tag)],takC (l,b)] [.ptr 0 0,.ptr 1 0] ((allD tag l).1.map encS) [[.ptr 2 0],[.v (.int .i64 tag)],takC ((allD tag l).2,b)]:=by
 refine itM_prog tabOk mixed Tryz.f169 Tryz.func169 (by kernel_rfl) (by kernel_rfl) (by kernel_rfl) rfl rfl rfl rfl fun k hE=>?_
 have hlen:=(all_drop tag l).1
 conv=>whnf
 refine⟨[],trivial,rfl,Nat,fun i=>⟨21,[(0,.v (.raw (.func (.yield k.l0) #[] #[]))),(1,.ptr 21 0),(2,.ptr 22 0)],[(21,[.ptr 23 0]),(22,[.v (.int .i64 tag)]),(23,takC (l.drop i,b))],[]⟩,fun i=>some i,fun i=>i≤(allD tag l).1.length,fun i=>l.length - i,⟨0,[],Nat.zero_le _,rfl,?_⟩,fun i hi=>?_⟩
 ·(focus ((repeat' first|exact trivial|exact rfl|exact .inl rfl|exact .inr ⟨rfl,rfl⟩|refine And.intro ?_ ?_);done))
 obtain⟨h1,h2⟩:=all_at tag l i hi
 have hn:=next_fn (X:=X) tag (l.drop i) (by rw[List.length_drop];omega) b
 unfold nextT restL at hn
 conv=>whnf
 cases hq:nextL tag (l.drop i) with
 | none=>
  rw[hq] at hn
  have he:allD tag (l.drop i)=([],l.drop i):=by
   cases hd:l.drop i with
   | nil=>rfl
   | cons x r=>
    rw[hd,nextL] at hq
    split at hq
    ·cases hq
    ·rw[allD,if_neg (by assumption)]
  (refine st_callM [23] (hn) rfl ?_ ?_ rfl ?_;(focus ((repeat' first|exact trivial|exact rfl|exact .inl rfl|exact .inr ⟨rfl,rfl⟩|refine And.intro ?_ ?_);done));(focus ((repeat' first|exact trivial|exact rfl|exact .inl rfl|exact .inr ⟨rfl,rfl⟩|refine And.intro ?_ ?_);done));conv=>whnf)
  rw[he] at h1 h2
  have h3:=congrArg List.length h1
  simp at h3
  refine .inr ⟨?_,?_⟩
  ·rw[List.length_map];exact congrArg some (by omega)
  ·dsimp only at h2
   rw[←h2]
   (focus ((repeat' first|exact trivial|exact rfl|exact .inl rfl|exact .inr ⟨rfl,rfl⟩|refine And.intro ?_ ?_);done))
 | some q=>
  obtain⟨x,r⟩:=q
  rw[hq] at hn
  obtain⟨e1,e2⟩:=next_some hq
  have he:allD tag (l.drop i)=(x.data::(allD tag r).1,(allD tag r).2):=by rw[e1,allD,if_pos e2]
  rw[he] at h1
  dsimp only at h1
  have hil:i < (allD tag l).1.length:=by
   rcases Nat.lt_or_ge i (allD tag l).1.length with h | h
   ·exact h
   ·rw[List.drop_eq_nil_of_le h] at h1;cases h1
  have hr:r=l.drop (i+1):=by rw[←List.drop_drop,e1];rfl
  have hill:i < l.length:=by omega
  (refine st_callM [23] (hn) rfl ?_ ?_ rfl ?_;(focus ((repeat' first|exact trivial|exact rfl|exact .inl rfl|exact .inr ⟨rfl,rfl⟩|refine And.intro ?_ ?_);done));(focus ((repeat' first|exact trivial|exact rfl|exact .inl rfl|exact .inr ⟨rfl,rfl⟩|refine And.intro ?_ ?_);done));conv=>whnf)
  refine⟨15,_,_,[],_,rfl,rfl,rfl,(show _=some (encS x.data) from ?_),.inr ⟨rfl,rfl,rfl⟩,?_,?_⟩
  ·rw[List.getElem?_map,←List.head?_drop,←h1];rfl
  ·conv=>whnf
   refine⟨i+1,[],hil,rfl,by dsimp only;omega,?_⟩
   dsimp only
   rw[←hr]
   (focus ((repeat' first|exact trivial|exact rfl|exact .inl rfl|exact .inr ⟨rfl,rfl⟩|refine And.intro ?_ ?_);done))
  ·conv=>whnf
   exact .inl rfl
def listOk(tag:Int)(x:Nd)(b ok:Bool):Bool:=b||(!ok||((ofN x tag).2|| !decide ((allD 4 x.kids).2=[])))
set_option maxHeartbeats 1000000 in
theorem list_one(tag:Int)(l r:List Nd)(b:Bool)(x:Nd)(ok:Bool)(hk:x.kids.length≤100000000)(hn:FnM Tryz.prog X 136 [takC (l,b)] [.ptr 0 0,.v (.int .i64 tag)] (.tup [.v (.agg (cM x)),.v (.bool ok)]) [takC (r,b)]):
  FnM Tryz.prog X 100 [takC (l,b)] [.ptr 0 0,.v (.int .i64 tag)] (.v (.sl ((allD 4 x.kids).1.map encS))) [takC (r,listOk tag x b ok)]:=by
 refine fnM_prog tabOk mixed Tryz.f100 Tryz.func100 (by kernel_rfl) (by kernel_rfl) rfl rfl rfl rfl ?_
 conv=>whnf
 (refine st_callM [53] (hn) rfl ?_ ?_ rfl ?_;(focus ((repeat' first|exact trivial|exact rfl|exact .inl rfl|exact .inr ⟨rfl,rfl⟩|refine And.intro ?_ ?_);done));(focus ((repeat' first|exact trivial|exact rfl|exact .inl rfl|exact .inr ⟨rfl,rfl⟩|refine And.intro ?_ ?_);done));conv=>whnf)
 refine st_callN [20] (r:=.ptr 20 0) (bs':=[(20,takC (ofN x tag)),(5,[.v (.int .i64 x.tag),.v (.str x.data),.v (.sl (x.kids.map cN))]),(53,takC (r,b))]) (lv':=[]) (args:=[.v (.agg (cM x)),.v (.int .i64 tag)]) ?_ ?_ ?_ ?_
 ·have ho:ofN x tag=(x.kids,decide (x.tag≠tag∨x.data.size≠0)):=rfl
  rw[ho]
  refine fnI_prog tabOk mixed Tryz.f95 [(20,18)] (upN 19) Tryz.func95 (by kernel_rfl) (by kernel_rfl) rfl rfl ?_
  conv=>whnf
  refine⟨rfl,cmp_split (fun h=>?_) (fun h=>?_)⟩
  ·rw[show decide (x.tag≠tag∨x.data.size≠0)=true from decide_eq_true (.inl h)]
   conv=>whnf
   (focus ((repeat' first|exact trivial|exact rfl|exact .inl rfl|exact .inr ⟨rfl,rfl⟩|refine And.intro ?_ ?_);done))
  ·conv=>whnf
   refine cmp_split (fun h2=>?_) (fun h2=>?_)
   ·rw[show decide (x.tag≠tag∨x.data.size≠0)=true from decide_eq_true (.inr (fun e=>h2 (Fi.size0.1 e)))]
    conv=>whnf
    (focus ((repeat' first|exact trivial|exact rfl|exact .inl rfl|exact .inr ⟨rfl,rfl⟩|refine And.intro ?_ ?_);done))
   ·rw[show decide (x.tag≠tag∨x.data.size≠0)=false from decide_eq_false (fun e=>e.elim h (fun e=>e (Fi.size0.2 (Decidable.not_not.1 h2))))]
    conv=>whnf
    (focus ((repeat' first|exact trivial|exact rfl|exact .inl rfl|exact .inr ⟨rfl,rfl⟩|refine And.intro ?_ ?_);done))
 ·exact⟨.inl rfl,.inl rfl,trivial⟩
 ·rfl
 conv=>whnf
 refine st_callN [24,25] (r:=.fn 169 [.ptr 24 0,.ptr 25 0]) (bs':=[(24,[.ptr 20 0]),(25,[.v (.int .i64 4)]),(8,[.v .nils]),(20,takC (ofN x tag)),(5,[.v (.int .i64 x.tag),.v (.str x.data),.v (.sl (x.kids.map cN))]),(53,takC (r,b))]) (lv':=[]) (args:=[.ptr 20 0,.v (.int .i64 4)]) ?_ ?_ ?_ ?_
 ·refine fnI_prog tabOk mixed Tryz.f138 [(24,2),(25,3)] (upN 6) Tryz.func138 (by kernel_rfl) (by kernel_rfl) rfl rfl ?_
  conv=>whnf
  (focus ((repeat' first|exact trivial|exact rfl|exact .inl rfl|exact .inr ⟨rfl,rfl⟩|refine And.intro ?_ ?_);done))
 ·exact⟨⟨rfl,rfl⟩,.inl rfl,trivial⟩
 ·rfl
 conv=>whnf
 have hlen:=(all_drop 4 x.kids).1
 refine⟨[24,25,20],[[.ptr 20 0],[.v (.int .i64 4)],takC (ofN x tag)],[[.ptr 2 0],[.v (.int .i64 4)],takC (ofN x tag)],[.ptr 0 0,.ptr 1 0],_,_,some (2,20,7,takC ((allD 4 x.kids).2,(ofN x tag).2)),fun i=>⟨53,[(0,.ptr 53 0),(6,.v (.bool ok)),(7,.ptr 20 0),(8,.ptr 8 0)],[(53,takC (r,b)),(8,[.own 29 9 (((allD 4 x.kids).1.take i).map encS)])],[(29,some 9)]⟩,fun i=>i≤(allD 4 x.kids).1.length,all_it 4 x.kids hk (ofN x tag).2,rfl,rfl,?_,?_,?_,⟨Nat.zero_le _,[(29,none)],?_⟩,fun i=>⟨rfl,rfl⟩,fun i=>rfl,(show ∀p∈[25],p < 53 by decide),fun i v hv hi=>?_,fun hi=>?_⟩
 ·(focus ((repeat' first|exact trivial|exact rfl|exact .inl rfl|exact .inr ⟨rfl,rfl⟩|refine And.intro ?_ ?_);done))
 ·(focus ((repeat' first|exact trivial|exact rfl|exact .inl rfl|exact .inr ⟨rfl,rfl⟩|refine And.intro ?_ ?_);done))
 ·(focus ((repeat' first|exact trivial|exact rfl|exact .inl rfl|exact .inr ⟨rfl,rfl⟩|refine And.intro ?_ ?_);done))
 ·(focus ((repeat' first|exact trivial|exact rfl|exact .inl rfl|exact .inr ⟨rfl,rfl⟩|refine And.intro ?_ ?_);done))
 ·rw[List.getElem?_map] at hv
  obtain⟨s,hs,rfl⟩:=Option.map_eq_some_iff.1 hv
  obtain⟨hil,hs⟩:=List.getElem?_eq_some_iff.1 hs
  refine⟨rfl,?_⟩
  conv=>whnf
  refine st_app (by simp;omega) (by intro c hc;simp at hc;rw[hc];rfl) (show((allD 4 x.kids).1.take i).map encS++[encS s]=((allD 4 x.kids).1.take (i+1)).map encS from by rw[←hs];exact map_take_succ hil) ?_
  conv=>whnf
  refine⟨by show i+1≤_;omega,[(29,some 29)],?_⟩
  (focus ((repeat' first|exact trivial|exact rfl|exact .inl rfl|exact .inr ⟨rfl,rfl⟩|refine And.intro ?_ ?_);done))
 ·have he:=end_fn (X:=X) ((allD 4 x.kids).2,(ofN x tag).2)
  have htk:(allD 4 x.kids).1.take ((allD 4 x.kids).1.map encS).length=(allD 4 x.kids).1:=by rw[List.length_map,List.take_length]
  unfold listOk
  generalize (ofN x tag).2=lk at*
  generalize hz:decide ((allD 4 x.kids).2=[])=z at*
  conv=>whnf
  rw[htk]
  cases b
  ·cases ok
   ·conv=>whnf
    (focus ((repeat' first|exact trivial|exact rfl|exact .inl rfl|exact .inr ⟨rfl,rfl⟩|refine And.intro ?_ ?_);done))
   ·cases lk
    ·conv=>whnf
     (refine st_callM [20] (he) rfl ?_ ?_ rfl ?_;(focus ((repeat' first|exact trivial|exact rfl|exact .inl rfl|exact .inr ⟨rfl,rfl⟩|refine And.intro ?_ ?_);done));(focus ((repeat' first|exact trivial|exact rfl|exact .inl rfl|exact .inr ⟨rfl,rfl⟩|refine And.intro ?_ ?_);done));conv=>whnf)
     cases z <;> (conv=>whnf) <;> (focus ((repeat' first|exact trivial|exact rfl|exact .inl rfl|exact .inr ⟨rfl,rfl⟩|refine And.intro ?_ ?_);done))
    ·conv=>whnf
     (focus ((repeat' first|exact trivial|exact rfl|exact .inl rfl|exact .inr ⟨rfl,rfl⟩|refine And.intro ?_ ?_);done))
  ·conv=>whnf
   (focus ((repeat' first|exact trivial|exact rfl|exact .inl rfl|exact .inr ⟨rfl,rfl⟩|refine And.intro ?_ ?_);done))
theorem list_fn(tag:Int)(ht:tag≠0)(t:Tk)(hl:t.1.length≤100000000)(hm:midNs t.1):FnM Tryz.prog X 100 [takC t] [.ptr 0 0,.v (.int .i64 tag)] (.v (.sl ((takeL tag t).1.map encS))) [takC (takeL tag t).2]:=by
 obtain⟨l,b⟩:=t
 have hn:=next_fn (X:=X) tag l hl b
 unfold nextT restL at hn
 unfold takeL
 dsimp only
 cases h:nextL tag l with
 | none=>
  rw[h] at hn
  dsimp only at hn ⊢
  have:=list_one tag l l b nd0 false (by decide) hn
  unfold listOk at this
  rw[show(b||(!false||((ofN nd0 tag).2|| !decide ((allD 4 nd0.kids).2=[]))))=true by simp] at this
  exact this
 | some q=>
  obtain⟨x,r⟩:=q
  rw[h] at hn
  dsimp only at hn ⊢
  have:=list_one tag l r b x true (midN_at (next_mid h hm).1).1 hn
  unfold listOk at this
  simpa using this
end Go.Proofs.YtknelogmocedeaaGreatDoor.Pa
