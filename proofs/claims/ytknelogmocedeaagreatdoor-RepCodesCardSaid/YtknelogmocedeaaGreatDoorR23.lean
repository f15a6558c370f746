/- Several texts, one behind the other. dn: a text read as a name: parsed, Parse, Canon. Conditions: texts of at most 10^6 bytes. dn: Parse. Conditions: texts of at most 10^6 bytes. part, plain: controls, attributes, changes, results; their trees, what is read of trees; what is made, read, is that. No program. The walk without memory: the contract of a function that goes on with its caller's memory (variables that hold rows of one's own), out of the walk of its body. Whatever program. The walk without memory: a loop over a map that was written out just ahead, as a piece by itself. Whatever program. -/
import Derived.Test.YtknelogmocedeaaGreatDoorR22
import Derived.Test.YtknelogmocedeaaGreatDoorR01
import Derived.Test.YtknelogmocedeaaGreatDoorR15
import Derived.Maps.RangeRun
namespace Go.Proofs.YtknelogmocedeaaGreatDoor.Dn
open Go.RowKit
set_option linter.unusedVariables false
variable (p : Nat → Addr)
theorem rdnOf_ok{q:List UInt8}(h:∀x∈piecesL 43 q,(partA (mkB x)).isSome=true):rdnOf q=some ((piecesL 43 q).map avaD):=
 allM_some (f:=fun q:List UInt8=>partA ⟨q.toArray⟩) (dflt:=avaD) (fun a b hb=>by unfold avaD mkB;rw[hb];rfl) _ h
theorem rdnOf_bad{q x:List UInt8}(hx:x∈piecesL 43 q)(h:partA (mkB x)=none):rdnOf q=none:=allM_none (f:=fun q:List UInt8=>partA ⟨q.toArray⟩) hx h
theorem badRdn_none{q:List UInt8}(h:(rdnOf q).isSome=true):badRdn q=none:=by
 unfold badRdn
 rw[Option.map_eq_none_iff,List.find?_eq_none]
 intro x hx hn
 rw[rdnOf_bad hx (by simpa using hn)] at h
 cases h
theorem bad_at{s:ByteArray}{i j:Nat}(hs:s.data.toList≠[])(hi:i < (piecesL 44 s.data.toList).length)(hpre:∀k (hk:k < (piecesL 44 s.data.toList).length),k < i→(rdnOf (piecesL 44 s.data.toList)[k]).isSome=true)
  (hj:j < (piecesL 43 (piecesL 44 s.data.toList)[i]).length) (hpre2:∀k (hk:k < (piecesL 43 (piecesL 44 s.data.toList)[i]).length),k < j→(partA (mkB (piecesL 43 (piecesL 44 s.data.toList)[i])[k])).isSome=true)
  (h:partA (mkB (piecesL 43 (piecesL 44 s.data.toList)[i])[j])=none):parsedV s=.tup [.v (.sl []),.v (dnErr (mkB (piecesL 43 (piecesL 44 s.data.toList)[i])[j]))]:=by
 have h1:badRdn (piecesL 44 s.data.toList)[i]=some (mkB (piecesL 43 (piecesL 44 s.data.toList)[i])[j]):=by
  unfold badRdn
  rw[find_first hj (fun k hk=>by have:=hpre2 k (by omega) hk;rw[Option.isSome_iff_ne_none] at this;rw[Option.isNone_eq_false_iff,Option.isSome_iff_ne_none];exact this) (by rw[h];rfl)]
  rfl
 have h2:badOf s=mkB (piecesL 43 (piecesL 44 s.data.toList)[i])[j]:=by
  unfold badOf
  rw[if_neg hs,findSome_first hi (fun k hk=>badRdn_none (hpre k (by omega) hk)) h1]
  rfl
 have h3:parsedL s.data.toList=none:=by
  unfold parsedL nameOf
  rw[if_neg hs,allM_none (List.getElem_mem hi) (rdnOf_bad (List.getElem_mem hj) h)]
  rfl
 unfold parsedV
 rw[h3,h2]
theorem good_at{s:ByteArray}(hs:s.data.toList≠[])(h:∀q∈piecesL 44 s.data.toList,(rdnOf q).isSome=true):nameOf s.data.toList=some ((piecesL 44 s.data.toList).map rdnD):=
 allM_some (f:=rdnOf) (dflt:=rdnD) (fun a b hb=>by unfold rdnD;rw[hb];rfl) _ h
theorem parsed_good{s:ByteArray}{d:Name}(hs:s.data.toList≠[])(hn:nameOf s.data.toList=some d)(hr:rightB d=true):parsedV s=.tup [.v (vName d),.v .nili]:=by
 have h3:parsedL s.data.toList=some d:=by
  unfold parsedL
  rw[if_neg hs,hn]
  simp[hr]
 unfold parsedV
 rw[h3]
theorem allM_isSome{α β:Type}{f:α→Option β}:∀{l:List α} {m:List β},allM f l=some m→∀a∈l,(f a).isSome=true
 | [],m,h,a,ha=>by cases ha
 | b::t,m,h,a,ha=>by
  rw[allM] at h
  cases hb:f b with
  | none=>rw[hb] at h;cases h
  | some y=>
   rw[hb] at h
   dsimp only at h
   rcases List.mem_cons.1 ha with rfl | ha
   ·rw[hb];rfl
   ·obtain⟨m',h1,_⟩:=Option.map_eq_some_iff.1 h
    exact allM_isSome h1 a ha
theorem parsed_wrong{s:ByteArray}{d:Name}(hs:s.data.toList≠[])(hn:nameOf s.data.toList=some d)(hr:rightB d=false):parsedV s=.tup [.v (.sl []),.v (dnErr s)]:=by
 have h3:parsedL s.data.toList=none:=by
  unfold parsedL
  rw[if_neg hs,hn]
  simp[hr]
 have h2:badOf s=s:=by
  unfold badOf
  rw[if_neg hs,List.findSome?_eq_none_iff.2 (fun q hq=>badRdn_none (allM_isSome hn q hq))]
  rfl
 unfold parsedV
 rw[h3,h2]
theorem mkB_size(l:List UInt8):(mkB l).size=l.length:=rfl
theorem getElem?_map_some{α:Type}{f:α→List V}{l:List α}{i:Nat}{v:List V}(h:(l.map f)[i]? =some v):∃hi:i < l.length,v=f l[i]:=by
 rw[List.getElem?_map,Option.map_eq_some_iff] at h
 obtain⟨a,h1,h2⟩:=h
 obtain⟨hi,h3⟩:=List.getElem?_eq_some_iff.1 h1
 exact⟨hi,by rw[h3,h2]⟩
theorem parsed_fn(s:ByteArray)(hs:s.size≤1000000):Fn Tryz.prog (envX p) 50 [.v (.str s)] (parsedV s):=by
 have hsl:=Txt.size_list s
 refine fn_prog tabOk mixed Tryz.f50 Tryz.func50 (by kernel_rfl) (by kernel_rfl) ?_
 conv=>whnf
 refine cmp_split (fun h=>?_) (fun h=>?_)
 ·subst h
  conv=>whnf
  exact⟨⟨.inr ⟨rfl,rfl⟩,.inl rfl,trivial⟩,rfl⟩
 ·have hne:s.data.toList≠[]:=fun e=>h (by cases s with | mk data=>cases data with | mk l=>simp at e;rw[e])
  have hpl:=pieces_le 44 s.data.toList
  generalize hPP:piecesL 44 s.data.toList=PP at hpl
  conv=>whnf
  refine st_call (pieces_fn p s 44) ⟨.inl rfl,trivial⟩ rfl rfl ?_
  conv=>whnf
  refine⟨_,_,fun i=>⟨47,[(0,.v (.str s)),(2,.ptr 2 0),(3,.ptr 3 0),(4,.ptr 4 0)],[(2,[.v .nils]),(3,[.v .nili]),(4,[.own 39 161 ((PP.take i).map fun q=>cRdn (rdnD q))])],[(39,some 161)]⟩,fun i=>∀k (hk:k < PP.length),k < i→(rdnOf PP[k]).isSome=true,pieces_it p s 44 (by omega) (by decide),⟨rfl,trivial⟩,rfl,⟨fun _ _ hk=>absurd hk (Nat.not_lt_zero _),?_⟩,fun _=>rfl,?_,fun i v hv hinv=>?_,fun hinv=>?_⟩
  ·exact⟨[(39,none)],rfl,rfl,⟨.inl rfl,⟨rfl,rfl⟩,⟨rfl,rfl⟩,⟨rfl,rfl⟩,trivial⟩,⟨⟨.inl rfl,trivial⟩,⟨.inl rfl,trivial⟩,⟨⟨rfl,rfl,rfl⟩,trivial⟩,trivial⟩,⟨trivial,trivial⟩⟩
  ·exact fun x hx=>by simp at hx;subst hx;show 16 < 47;decide
  ·rw [hPP] at hv
   obtain⟨hi,rfl⟩:=getElem?_map_some hv
   refine⟨rfl,?_⟩
   have hyl:=hpl.1 _ (List.getElem_mem hi)
   have hql:=pieces_le 43 PP[i]
   generalize hQQ:piecesL 43 PP[i]=QQ at hql
   conv=>whnf
   refine st_call (pieces_fn p (mkB PP[i]) 43) ⟨.inl rfl,trivial⟩ rfl rfl ?_
   conv=>whnf
   refine⟨_,_,fun j=>⟨47,[(0,.v (.str s)),(2,.ptr 2 0),(3,.ptr 3 0),(4,.ptr 4 0),(6,.ptr 6 0)],[(2,[.v .nils]),(3,[.v .nili]),(4,[.own 39 161 ((PP.take i).map fun q=>cRdn (rdnD q))]),(6,[.own 34 163 ((QQ.take j).map fun x=>cAva (avaD x))])],[(39,some 161),(34,some 163)]⟩,fun j=>∀k (hk:k < QQ.length),k < j→(partA (mkB QQ[k])).isSome=true,pieces_it p (mkB PP[i]) 43 (by rw[mkB_size];omega) (by decide),⟨rfl,trivial⟩,rfl,⟨fun _ _ hk=>absurd hk (Nat.not_lt_zero _),?_⟩,fun _=>rfl,?_,fun j v hv hinv2=>?_,fun hinv2=>?_⟩
   ·exact⟨[(39,some 39),(34,none)],rfl,rfl,⟨.inl rfl,⟨rfl,rfl⟩,⟨rfl,rfl⟩,⟨rfl,rfl⟩,⟨rfl,rfl⟩,trivial⟩,⟨⟨.inl rfl,trivial⟩,⟨.inl rfl,trivial⟩,⟨⟨rfl,rfl,rfl⟩,trivial⟩,⟨⟨rfl,rfl,rfl⟩,trivial⟩,trivial⟩,⟨rfl,trivial,trivial⟩⟩
   ·exact fun x hx=>by simp at hx;subst hx;show 21 < 47;decide
   ·rw[mkB_list,hQQ] at hv
    obtain⟨hj,rfl⟩:=getElem?_map_some hv
    refine⟨rfl,?_⟩
    have hzl:=hql.1 _ (List.getElem_mem hj)
    have hP:=part_fn p (mkB QQ[j]) (by rw[mkB_size];omega)
    unfold partV at hP
    cases ha:partA (mkB QQ[j]) with
    | none=>
     rw[ha] at hP
     dsimp only at hP
     have hbad:parsedV s=.tup [.v (.sl []),.v (dnErr (mkB QQ[j]))]:=by
      subst hPP;subst hQQ
      exact bad_at hne hi hinv hj hinv2 ha
     rw[hbad]
     conv=>whnf
     refine st_call hP ⟨.inl rfl,trivial⟩ rfl rfl ?_
     conv=>whnf
     refine⟨[],⟨47,[(2,.ptr 2 0),(3,.ptr 3 0)],[(2,[.v .nils]),(3,[.v (dnErr (mkB QQ[j]))])],[]⟩,⟨rfl,rfl,⟨⟨rfl,rfl⟩,⟨rfl,rfl⟩,trivial⟩,⟨⟨.inl rfl,trivial⟩,⟨.inl rfl,trivial⟩,trivial⟩,trivial⟩,rfl,?_⟩
     conv=>whnf
     refine⟨[],⟨47,[(2,.ptr 2 0),(3,.ptr 3 0)],[(2,[.v .nils]),(3,[.v (dnErr (mkB QQ[j]))])],[]⟩,⟨rfl,rfl,⟨⟨rfl,rfl⟩,⟨rfl,rfl⟩,trivial⟩,⟨⟨.inl rfl,trivial⟩,⟨.inl rfl,trivial⟩,trivial⟩,trivial⟩,rfl,?_⟩
     conv=>whnf
     exact⟨⟨.inr ⟨rfl,rfl⟩,.inl rfl,trivial⟩,rfl⟩
    | some a=>
     rw[ha] at hP
     dsimp only at hP
     conv=>whnf
     refine st_call hP ⟨.inl rfl,trivial⟩ rfl rfl ?_
     conv=>whnf
     have had:avaD QQ[j]=a:=by unfold avaD;rw[ha];rfl
     refine st_app (by rw[List.length_map,List.length_take,List.length_singleton];omega) (by simp[V.cells]) (show _=(QQ.take (j+1)).map fun x=>cAva (avaD x) from by rw[←map_take_succ (enc:=fun x=>cAva (avaD x)) hj,had];rfl) ?_
     conv=>whnf
     refine⟨fun k hk hkj=>?_,[(39,some 39),(34,some 34)],?_⟩
     ·rcases Nat.lt_succ_iff_lt_or_eq.1 hkj with h | h
      ·exact hinv2 k hk h
      ·subst h;rw[ha];rfl
     ·exact⟨rfl,rfl,⟨.inl rfl,⟨rfl,rfl⟩,⟨rfl,rfl⟩,⟨rfl,rfl⟩,⟨rfl,rfl⟩,trivial⟩,⟨⟨.inl rfl,trivial⟩,⟨.inl rfl,trivial⟩,⟨⟨rfl,rfl,rfl⟩,trivial⟩,⟨⟨rfl,rfl,rfl⟩,trivial⟩,trivial⟩,⟨rfl,rfl,trivial⟩⟩
   ·rw[List.length_map,mkB_list,hQQ]
    rw[List.length_map,mkB_list,hQQ] at hinv2
    have hok:∀x∈piecesL 43 PP[i],(partA (mkB x)).isSome=true:=fun x hx=>by
     rw[hQQ] at hx
     obtain⟨k,hk,rfl⟩:=List.getElem_of_mem hx
     exact hinv2 k hk hk
    have hrd:rdnD PP[i]=QQ.map avaD:=by unfold rdnD;rw[rdnOf_ok hok,hQQ];rfl
    have hsome:(rdnOf PP[i]).isSome=true:=by rw[rdnOf_ok hok];rfl
    conv=>whnf
    refine st_app (by rw[List.length_map,List.length_take,List.length_singleton];omega) (by simp[V.cells]) (show _=(PP.take (i+1)).map fun q=>cRdn (rdnD q) from by rw[←map_take_succ (enc:=fun q=>cRdn (rdnD q)) hi,hrd,cRdn,List.map_map,List.take_length];rfl) ?_
    conv=>whnf
    refine⟨fun k hk hki=>?_,[(39,some 39)],?_⟩
    ·rcases Nat.lt_succ_iff_lt_or_eq.1 hki with h | h
     ·exact hinv k hk h
     ·subst h;exact hsome
    ·exact⟨rfl,rfl,⟨.inl rfl,⟨rfl,rfl⟩,⟨rfl,rfl⟩,⟨rfl,rfl⟩,trivial⟩,⟨⟨.inl rfl,trivial⟩,⟨.inl rfl,trivial⟩,⟨⟨rfl,rfl,rfl⟩,trivial⟩,trivial⟩,⟨rfl,trivial⟩⟩
  ·rw[List.length_map,hPP]
   rw[List.length_map,hPP] at hinv
   have hok:∀q∈piecesL 44 s.data.toList,(rdnOf q).isSome=true:=fun q hq=>by
    rw[hPP] at hq
    obtain⟨k,hk,rfl⟩:=List.getElem_of_mem hq
    exact hinv k hk hk
   have hgood:=good_at hne hok
   rw[hPP] at hgood
   generalize hd:PP.map rdnD=d at hgood
   have hR:=right_fn p d
   have hvd:V.sl ((PP.take PP.length).map fun q=>cRdn (rdnD q))=vName d:=by
    rw[List.take_length,←hd,vName,List.map_map];rfl
   cases hr:rightB d with
   | false=>
    rw[hr] at hR
    rw[parsed_wrong hne hgood hr]
    conv=>whnf
    refine st_call hR ⟨hvd.symm,trivial⟩ rfl rfl ?_
    conv=>whnf
    exact⟨⟨.inr ⟨rfl,rfl⟩,.inl rfl,trivial⟩,rfl⟩
   | true=>
    rw[hr] at hR
    rw[parsed_good hne hgood hr]
    conv=>whnf
    refine st_call hR ⟨hvd.symm,trivial⟩ rfl rfl ?_
    conv=>whnf
    exact⟨⟨hvd.symm,.inl rfl,trivial⟩,rfl⟩
end Go.Proofs.YtknelogmocedeaaGreatDoor.Dn
namespace Go.Proofs.YtknelogmocedeaaGreatDoor.Dn
open Go.RowKit
set_option linter.unusedVariables false
variable (p : Nat → Addr)
def parsedD(s:ByteArray):Name:=(parsedL s.data.toList).getD []
def parsedOk(s:ByteArray):Bool:=(parsedL s.data.toList).isSome
theorem parse_fn(s:ByteArray)(hs:s.size≤1000000):Fn Tryz.prog (envX p) 16 [.v (.str s)] (.tup [.v (vName (parsedD s)),.v (.int .i64 (codeN (parsedOk s)))]):=by
 have hP:=parsed_fn p s hs
 unfold parsedV at hP
 unfold parsedD parsedOk codeN
 cases hd:parsedL s.data.toList with
 | none=>
  rw[hd] at hP
  refine fn_prog tabOk mixed Tryz.f16 Tryz.func16 (by kernel_rfl) (by kernel_rfl) ?_
  conv=>whnf
  refine st_call hP ⟨.inl rfl,trivial⟩ rfl rfl ?_
  conv=>whnf
  refine st_call (told_wrong_fn p _) ⟨.inl rfl,trivial⟩ rfl rfl ?_
  conv=>whnf
  exact⟨⟨.inl rfl,.inl rfl,trivial⟩,rfl⟩
 | some d=>
  rw[hd] at hP
  refine fn_prog tabOk mixed Tryz.f16 Tryz.func16 (by kernel_rfl) (by kernel_rfl) ?_
  conv=>whnf
  refine st_call hP ⟨.inl rfl,trivial⟩ rfl rfl ?_
  conv=>whnf
  refine st_call (told_nil_fn p) ⟨.inl rfl,trivial⟩ rfl rfl ?_
  conv=>whnf
  exact⟨⟨.inl rfl,.inl rfl,trivial⟩,rfl⟩
end Go.Proofs.YtknelogmocedeaaGreatDoor.Dn
namespace Go.Proofs.YtknelogmocedeaaGreatDoor.Pa
open Go.Lib Tl Pr
open Fl (bl bt' bl_bt bl_of size_bl)
set_option linter.unusedVariables false
def leafN(t:Int)(d:ByteArray):Nd:=.mk t d []
abbrev Tk:=List Nd×Bool
def nd0:Nd:=.mk 0 (bt' []) []
def nextL(tag:Int):List Nd→Option (Nd×List Nd)
 | []=>none
 | x::r=>if x.tag=tag then some (x,r) else none
def takeD(tag:Int)(t:Tk):ByteArray×Tk:=match nextL tag t.1 with
 | some (x,r)=>(x.data,r,t.2||decide (0 < x.kids.length))
 | none=>(bt' [],t.1,true)
def takeI(t:Tk):Int×Tk:=match readI (bl (takeD 10 t).1) with
 | some n=>(n,(takeD 10 t).2)
 | none=>(0,(takeD 10 t).2.1,true)
def isIn(tag:Int)(t:Tk):Bool:=match t.1 with
 | []=>false
 | x::_=>decide (x.tag=tag)
def allD(tag:Int):List Nd→List ByteArray×List Nd
 | []=>([],[])
 | x::r=>if x.tag=tag then(x.data::(allD tag r).1,(allD tag r).2) else([],x::r)
def ofN(n:Nd)(tag:Int):Tk:=(n.kids,decide (n.tag≠tag∨n.data.size≠0))
def takeL(tag:Int)(t:Tk):List ByteArray×Tk:=match nextL tag t.1 with
 | some (x,r)=>((allD 4 x.kids).1,r,t.2||((ofN x tag).2||decide ((allD 4 x.kids).2≠[])))
 | none=>([],t.1,true)
def leavesN(tag:Int)(l:List ByteArray):Nd:=.mk tag (bt' []) (l.map (leafN 4))
def allSz(n:Nat)(l:List ByteArray):Bool:=l.all fun s=>decide (s.size≤n)
structure Ctl where
 oid:ByteArray
 crit:Bool
 val:ByteArray
 has:Bool
def ctl0:Ctl:=⟨bt' [],false,bt' [],false⟩
def oidB(s:ByteArray):Bool:=Dn.typeB (bl s)&&match bl s with
 | []=>false
 | b::_=>decide (48≤b.toNat∧b.toNat≤57)
def dnB(s:ByteArray):Bool:=Dn.parsedOk s&&decide (s.size≤200)
def ctlB(c:Ctl):Bool:=oidB c.oid&&(decide (c.val.size≤200)&&(c.has||decide (c.val.size=0)))
def ctlN(c:Ctl):Nd:=.mk 48 (bt' []) (leafN 4 c.oid::((if c.crit=true then [leafN 1 (bt' [255])] else [])++if c.has=true then [leafN 4 c.val] else []))
def trueB(s:ByteArray):Bool:=match bl s with
 | [b]=>decide (b≠0)
 | _=>false
def takeC(t:Tk):Bool×Tk:=if isIn 1 t=true then(trueB (takeD 1 t).1,(takeD 1 t).2.1,(takeD 1 t).2.2|| !trueB (takeD 1 t).1) else(false,t)
def takeV(t:Tk):(Bool×ByteArray)×Tk:=if isIn 4 t=true then((true,(takeD 4 t).1),(takeD 4 t).2) else((false,bt' []),t)
def readC(n:Nd):Option Ctl:=
 let a:=takeD 4 (ofN n 48)
 let b:=takeC a.2
 let v:=takeV b.2
 let c:Ctl:=⟨a.1,b.1,v.1.2,v.1.1⟩
 if v.2.2=false∧v.2.1=[]∧ctlB c=true then some c else none
structure Att where
 name:ByteArray
 vals:List ByteArray
def att0:Att:=⟨bt' [],[]⟩
def attB(a:Att)(least:Int):Bool:=decide (least=0∨least=1)&&(Fl.nameB (bl a.name)&&(decide (least≤a.vals.length)&&(decide (a.vals.length≤6)&&allSz 200 a.vals)))
def attN(a:Att):Nd:=.mk 48 (bt' []) [leafN 4 a.name,leavesN 49 a.vals]
def readA(n:Nd)(least:Int):Option Att:=
 let x:=takeD 4 (ofN n 48)
 let y:=takeL 49 x.2
 let a:Att:=⟨x.1,y.1⟩
 if y.2.2=false∧y.2.1=[]∧attB a least=true∧sameN (attN a) n=true then some a else none
structure Chg where
 kind:Int
 att:Att
def chg0:Chg:=⟨0,att0⟩
def chgB(c:Chg):Bool:=if c.kind=0 then attB c.att 1 else if c.kind=1∨c.kind=2 then attB c.att 0 else false
def intB(n:Int):ByteArray:=match leastW n with
 | some w=>bt' (intL w n)
 | none=>bt' []
def numN(n:Int):Nd:=leafN 10 (intB n)
def chgN(c:Chg):Nd:=.mk 48 (bt' []) [numN c.kind,attN c.att]
def readH(n:Nd):Option Chg:=
 let x:=takeI (ofN n 48)
 match x.2.1 with
 | [y]=>if x.2.2=true then none else match readA y 0 with
  | some a=>if chgB ⟨x.1,a⟩=true then some ⟨x.1,a⟩ else none
  | none=>none
 | _=>none
structure Res where
 code:Int
 dn:ByteArray
 text:ByteArray
 refs:List ByteArray
def res0:Res:=⟨0,bt' [],bt' [],[]⟩
def refsB(l:List ByteArray):Bool:=(l.all fun s=>decide (s.size≠0)&&Utf.utfB s)&&(decide (l.length≤3)&&allSz 60 l)
def resB(r:Res):Bool:=decide (0≤r.code)&&(decide (r.code≤200)&&(dnB r.dn&&(Utf.utfB r.text&&(decide (r.text.size≤60)&&(refsB r.refs&&decide (r.code=10↔0 < r.refs.length))))))
def resN(r:Res):List Nd:=[numN r.code,leafN 4 r.dn,leafN 4 r.text]++if 0 < r.refs.length then [leavesN 163 r.refs] else []
def takeR(t:Tk):List ByteArray×Tk:=if isIn 163 t=true then takeL 163 t else([],t)
def readR(l:List Nd):Option Res:=
 let a:=takeI (l,false)
 let b:=takeD 4 a.2
 let c:=takeD 4 b.2
 let d:=takeR c.2
 let r:Res:=⟨a.1,b.1,c.1,d.1⟩
 if d.2.2=false∧d.2.1=[]∧resB r=true∧sameNs (resN r) l=true then some r else none
theorem take_leaf(tag:Int)(d:ByteArray)(r:List Nd)(b:Bool):takeD tag (leafN tag d::r,b)=(d,r,b):=by
 unfold takeD nextL leafN
 simp[Nd.tag,Nd.data,Nd.kids]
theorem in_nil(tag:Int)(b:Bool):isIn tag ([],b)=false:=rfl
theorem in_cons(tag t:Int)(d:ByteArray)(k r:List Nd)(b:Bool):isIn tag (.mk t d k::r,b)=decide (t=tag):=rfl
theorem of_same(tag:Int)(k:List Nd):ofN (.mk tag (bt' []) k) tag=(k,false):=by
 unfold ofN
 simp[Nd.tag,Nd.data,Nd.kids]
 rfl
theorem all_leaves:∀l:List ByteArray,allD 4 (l.map (leafN 4))=(l,[])
 | []=>rfl
 | s::r=>by
  rw[List.map_cons,allD,if_pos (show(leafN 4 s).tag=4 from rfl),all_leaves r]
  rfl
theorem take_leaves(tag:Int)(l:List ByteArray)(r:List Nd)(b:Bool):takeL tag (leavesN tag l::r,b)=(l,r,b):=by
 unfold takeL nextL
 dsimp only
 rw[if_pos (show(leavesN tag l).tag=tag from rfl)]
 dsimp only
 show((allD 4 (l.map (leafN 4))).1,r,b||((ofN (.mk tag (bt' []) (l.map (leafN 4))) tag).2||decide ((allD 4 (l.map (leafN 4))).2≠[])))=_
 rw[all_leaves,of_same]
 simp
theorem ctl_val{c:Ctl}(h:ctlB c=true):c.has=true∨c.val=bt' []:=by
 unfold ctlB at h
 simp only[Bool.and_eq_true,Bool.or_eq_true,decide_eq_true_eq] at h
 exact h.2.2.imp id Fl.size_zero
def ctlK(o:ByteArray)(c:Option ByteArray)(v:Option ByteArray):Nd:=.mk 48 (bt' []) (leafN 4 o::((match c with | some s=>[leafN 1 s] | none=>[])++match v with | some s=>[leafN 4 s] | none=>[]))
theorem read_ctlK(o:ByteArray)(c v:Option ByteArray):readC (ctlK o c v)=if(c.all trueB)=true∧ctlB ⟨o,c.isSome,v.getD (bt' []),v.isSome⟩=true then some ⟨o,c.isSome,v.getD (bt' []),v.isSome⟩ else none:=by
 unfold readC ctlK
 dsimp only
 rw[of_same,take_leaf]
 dsimp only
 cases c with
 | none=>
  cases v with
  | none=>simp[takeC,takeV,in_nil]
  | some v=>simp[takeC,takeV,leafN,in_cons];simp[takeD,nextL,Nd.tag,Nd.data,Nd.kids]
 | some c=>
  cases v with
  | none=>
   simp only[takeC,leafN,List.append_nil,in_cons]
   simp[takeD,nextL,Nd.tag,Nd.data,Nd.kids,takeV,isIn]
   cases trueB c <;> simp
  | some v=>
   simp only[takeC,leafN,List.singleton_append,in_cons]
   simp[takeD,nextL,Nd.tag,Nd.data,Nd.kids,takeV,isIn]
   cases trueB c <;> simp
theorem ctlN_K(c:Ctl):ctlN c=ctlK c.oid (if c.crit=true then some (bt' [255]) else none) (if c.has=true then some c.val else none):=by
 unfold ctlN ctlK
 cases c.crit <;> cases c.has <;> rfl
theorem true_ff:trueB (bt' [255])=true:=rfl
theorem read_ctl{c:Ctl}(h:ctlB c=true):readC (ctlN c)=some c:=by
 have hv:=ctl_val h
 obtain⟨o,cr,v,hs⟩:=c
 rw[ctlN_K,read_ctlK]
 dsimp only at hv ⊢
 cases cr <;> cases hs
 ·rcases hv with hv | rfl
  ·cases hv
  ·simp[h]
 ·simp[h]
 ·rcases hv with hv | rfl
  ·cases hv
  ·simp[h,true_ff]
 ·simp[h,true_ff]
theorem next_some{tag:Int}{l r:List Nd}{x:Nd}(h:nextL tag l=some (x,r)):l=x::r∧x.tag=tag:=by
 cases l with
 | nil=>cases h
 | cons y t=>
  rw[nextL] at h
  split at h
  ·cases h;exact⟨rfl,by assumption⟩
  ·cases h
theorem leaf_of{x:Nd}{tag:Int}(h1:x.tag=tag)(h2:x.kids=[]):x=leafN tag x.data:=by
 obtain⟨t,d,k⟩:=x
 obtain rfl:t=tag:=h1
 obtain rfl:k=[]:=h2
 rfl
theorem take_ok{tag:Int}{t:Tk}(h:(takeD tag t).2.2=false):t.2=false∧t.1=leafN tag (takeD tag t).1::(takeD tag t).2.1:=by
 unfold takeD at h ⊢
 split at h
 ·rename_i x r hn
  obtain⟨h1,h2⟩:=next_some hn
  dsimp only at h ⊢
  rw[Bool.or_eq_false_iff,decide_eq_false_iff_not] at h
  exact⟨h.1,by rw[h1,←leaf_of h2 (List.eq_nil_of_length_eq_zero (by omega))]⟩
 ·cases h
theorem take_num(n:Int)(h1: -2147483648≤n)(h2:n < 2147483648)(r:List Nd)(b:Bool):takeI (numN n::r,b)=(n,r,b):=by
 obtain⟨w,hw⟩:=least_in h1 h2
 unfold takeI
 have e:takeD 10 (numN n::r,b)=(bt' (intL w n),r,b):=by
  rw[numN,intB,hw];exact take_leaf _ _ _ _
 rw[e]
 dsimp only
 rw[bl_of,read_int hw]
theorem read_att{a:Att}{least:Int}(h:attB a least=true):readA (attN a) least=some a:=by
 unfold readA
 dsimp only
 rw[show attN a=.mk 48 (bt' []) [leafN 4 a.name,leavesN 49 a.vals] from rfl,of_same,take_leaf]
 dsimp only
 rw[take_leaves]
 dsimp only
 rw[if_pos ⟨rfl,rfl,h,sameN_refl _⟩]
theorem att_least{a:Att}:attB a 1=(attB a 0&&decide (1≤a.vals.length)):=by
 unfold attB
 cases Fl.nameB (bl a.name) <;> cases allSz 200 a.vals <;> by_cases h1:a.vals.length≤6 <;> by_cases h2:1≤a.vals.length <;> simp[h1,h2] <;> omega
theorem chg_kind{c:Chg}(h:chgB c=true):(c.kind=0∨c.kind=1∨c.kind=2)∧attB c.att 0=true:=by
 unfold chgB at h
 split at h
 ·rw[att_least,Bool.and_eq_true] at h
  exact⟨.inl (by assumption),h.1⟩
 ·split at h
  ·exact⟨.inr (by assumption),h⟩
  ·cases h
theorem read_chg{c:Chg}(h:chgB c=true):readH (chgN c)=some c:=by
 obtain⟨h1,h2⟩:=chg_kind h
 unfold readH
 dsimp only
 rw[show chgN c=.mk 48 (bt' []) [numN c.kind,attN c.att] from rfl,of_same,take_num _ (by omega) (by omega)]
 dsimp only
 rw[if_neg (by decide),read_att h2]
 dsimp only
 rw[if_pos h]
theorem read_res{r:Res}(h:resB r=true):readR (resN r)=some r:=by
 have h0:=h
 unfold resB at h
 simp only[Bool.and_eq_true,decide_eq_true_eq] at h
 obtain⟨h1,h2,_⟩:=h
 have hT:takeR ((if 0 < r.refs.length then [leavesN 163 r.refs] else []),false)=(r.refs,[],false):=by
  unfold takeR
  split
  ·rw[if_pos (show isIn 163 ([leavesN 163 r.refs],false)=true from rfl),take_leaves]
  ·rename_i hr
   rw[if_neg (by rw[in_nil];decide),show r.refs=[] from List.eq_nil_of_length_eq_zero (by omega)]
 unfold readR
 dsimp only
 rw[show takeI (resN r,false)=(r.code,[leafN 4 r.dn,leafN 4 r.text]++(if 0 < r.refs.length then [leavesN 163 r.refs] else []),false) from take_num _ (by omega) (by omega) _ _]
 dsimp only
 rw[List.cons_append,take_leaf]
 dsimp only
 rw[List.singleton_append,take_leaf]
 dsimp only
 rw[hT]
 dsimp only
 rw[if_pos ⟨rfl,rfl,h0,(sameNs_iff _ _).2 rfl⟩]
end Go.Proofs.YtknelogmocedeaaGreatDoor.Pa
namespace Go.Proofs.YtknelogmocedeaaGreatDoor
open Go.RowKit
set_option linter.unusedVariables false
variable {P : Program} {X : En} {tb : Tab}
mutual
def rnT(α π:Nat→Nat):T→T
 | .ptr i o=>.ptr (α i) o
 | .own k e xs=>.own (π k) e xs
 | .sub k m=>.sub (π k) m
 | .fn f caps=>.fn f (rnTs α π caps)
 | .tup l=>.tup (rnTs α π l)
 | .un=>.un
 | .v x=>.v x
 | .ro cs=>.ro cs
def rnTs(α π:Nat→Nat):List T→List T
 | []=>[]
 | t::r=>rnT α π t::rnTs α π r
end
def Gh.via (g:Gh)(α π:Nat→Nat):Gh:={L:=g.L,ρ:=fun i=>g.ρ (α i),κ:=fun k=>g.κ (π k)}
mutual
theorem rnT_rep{w:World}{g:Gh}{α π:Nat→Nat}:∀(t:T) (v:Value),RepT P w g (rnT α π t) v↔RepT P w (g.via α π) t v
 | .un,_=>Iff.rfl
 | .v x,v=>Iff.rfl
 | .own _ _ _,_=>Iff.rfl
 | .ptr i o,v=>Iff.rfl
 | .ro cs,v=>Iff.rfl
 | .sub _ _,_=>Iff.rfl
 | .fn f caps,v=>⟨fun⟨cs,e,r⟩=>⟨cs,e,(rnTs_rep caps _).1 r⟩,fun⟨cs,e,r⟩=>⟨cs,e,(rnTs_rep caps _).2 r⟩⟩
 | .tup l,v=>⟨fun⟨cs,e,r⟩=>⟨cs,e,(rnTs_rep l _).1 r⟩,fun⟨cs,e,r⟩=>⟨cs,e,(rnTs_rep l _).2 r⟩⟩
theorem rnTs_rep{w:World}{g:Gh}{α π:Nat→Nat}:∀(l:List T) (vs:List Value),RepTs P w g (rnTs α π l) vs↔RepTs P w (g.via α π) l vs
 | [],_=>Iff.rfl
 | t::r,_=>⟨fun⟨u,us,e,h1,h2⟩=>⟨u,us,e,(rnT_rep t u).1 h1,(rnTs_rep r us).1 h2⟩,fun⟨u,us,e,h1,h2⟩=>⟨u,us,e,(rnT_rep t u).2 h1,(rnTs_rep r us).2 h2⟩⟩
end
theorem rnTs_get{α π:Nat→Nat}:∀{l:List T} {k:Nat},(rnTs α π l)[k]? =(l[k]?).map (rnT α π)
 | [],k=>by simp[rnTs]
 | t::r,0=>rfl
 | t::r,k+1=>by rw[rnTs,List.getElem?_cons_succ,List.getElem?_cons_succ];exact rnTs_get
theorem LeEs.refl:∀l:List T,LeEs l l
 | []=>trivial
 | c::r=>⟨.inl rfl,LeEs.refl r⟩
theorem LeEs.get:∀{l m:List T} {k:Nat} {d:T},LeEs l m→m[k]? =some d→∃c,l[k]? =some c∧(c=d∨LeT c d)
 | [],[],_,_,_,h=>by simp at h
 | c::cs,e::ds,0,d,h,hk=>by simp at hk;subst hk;exact⟨c,rfl,h.1⟩
 | c::cs,e::ds,k+1,d,h,hk=>by
  obtain⟨c',h1,h2⟩:=LeEs.get h.2 (k:=k) (by simpa using hk)
  exact⟨c',by simpa using h1,h2⟩
 | [],_::_,_,_,h,_=>h.elim
 | _::_,[],_,_,h,_=>h.elim
theorem Mm.via {base:Nat}{S:Nat→Prop}{w:World}{g:Gh}{bs bs1:List (Nat×List T)}{lv lv1:List (Nat×Option Nat)}{α π:Nat→Nat}(h:Mm P X base S w g bs1 lv1)
  (hb:∀{i cs},lk i bs=some cs→∃c1,lk (α i) bs1=some c1∧LeEs c1 (rnTs α π cs)) (hα:∀{i j},isK bs i→isK bs j→i≠j→α i≠α j)
  (hl:∀{k e},lget lv k=some e→lget lv1 (π k)=some e) (hπ:∀{k k' e e'},lget lv k=some e→lget lv k'=some e'→k≠k'→π k≠π k'):Mm P X base S w (g.via α π) bs lv:=by
 have hK:∀{i},isK bs i→isK bs1 (α i):=fun {i} hi=>by
  unfold isK at hi
  obtain⟨cs,hcs⟩:=Option.isSome_iff_exists.1 hi
  obtain⟨c1,h1,_⟩:=hb hcs
  unfold isK;rw[h1];rfl
 refine⟨fun {i cs} hi {k c} hk=>?_,fun {i} hi k=>h.frz (hK hi) k,fun {i} hi k=>h.bxL (hK hi) k,fun {i} hi=>h.bxE (hK hi),fun {i} hi=>h.loc (hK hi),fun {i} hi=>h.lt (hK hi),fun {i j} hi hj hij=>h.inj (hK hi) (hK hj) (hα hi hj hij),fun {k e} hk=>?_,fun {k k' e e'} hk hk' hne=>h.ownInj (hl hk) (hl hk') (hπ hk hk' hne),h.Lc,fun {i} hi=>h.bc (hK hi),fun {k e b} hk=>h.ownE (hl hk)⟩
 ·obtain⟨c1,h1,h2⟩:=hb hi
  obtain⟨c',h3,h4⟩:=h2.get (k:=k) (d:=rnT α π c) (by rw[rnTs_get,hk];rfl)
  obtain⟨u,hu,hr,ho⟩:=h.box h1 h3
  refine⟨u,hu,(rnT_rep c u).1 ?_,ho⟩
  rcases h4 with rfl | h4
  ·exact hr
  ·exact LeT.rep _ _ _ h4 hr
 ·obtain⟨n,vals,o1,o2⟩:=h.own (hl hk)
  exact⟨n,vals,o1,fun b hb'=>⟨(o2 b hb').1,fun i hi=>(o2 b hb').2 _ (hK hi)⟩⟩
def upN(n i:Nat):Nat:=n+i
def dnN(n i:Nat):Nat:=i - n
theorem dn_up(n:Nat):(fun i=>dnN n (upN n i))=fun i=>i:=by funext i;unfold dnN upN;omega
mutual
theorem rn_back(n:Nat):∀t:T,rnT (dnN n) (dnN n) (rnT (upN n) (upN n) t)=t
 | .un=>rfl
 | .v x=>rfl
 | .own k e xs=>by rw[rnT,rnT,show dnN n (upN n k)=k from congrFun (dn_up n) k]
 | .ptr i o=>by rw[rnT,rnT,show dnN n (upN n i)=i from congrFun (dn_up n) i]
 | .ro cs=>rfl
 | .sub k m=>by rw[rnT,rnT,show dnN n (upN n k)=k from congrFun (dn_up n) k]
 | .fn f caps=>by rw[rnT,rnT,rns_back n caps]
 | .tup l=>by rw[rnT,rnT,rns_back n l]
theorem rns_back(n:Nat):∀l:List T,rnTs (dnN n) (dnN n) (rnTs (upN n) (upN n) l)=l
 | []=>rfl
 | t::r=>by rw[rnTs,rnTs,rn_back n t,rns_back n r]
end
def upB(n:Nat):List (Nat×List T)→List (Nat×List T)
 | []=>[]
 | p::r=>(n+p.1,rnTs (upN n) (upN n) p.2)::upB n r
def upL(n:Nat):List (Nat×Option Nat)→List (Nat×Option Nat)
 | []=>[]
 | p::r=>(n+p.1,p.2)::upL n r
theorem upB_lk(n:Nat):∀(bs:List (Nat×List T)) (i:Nat) (cs:List T),lk i (upB n bs)=some cs→∃cs0,n≤i∧lk (i - n) bs=some cs0∧cs=rnTs (upN n) (upN n) cs0
 | [],i,cs,h=>by cases h
 | p::r,i,cs,h=>by
  rw[upB] at h
  by_cases hi:i=n+p.1
  ·rw[hi,lk_cons_eq] at h
   cases h
   obtain⟨p1,p2⟩:=p
   exact⟨p2,by omega,by rw[hi,Nat.add_sub_cancel_left];exact lk_cons_eq _ _ _,rfl⟩
  ·rw[lk_cons_ne _ _ hi] at h
   obtain⟨cs0,h1,h2,h3⟩:=upB_lk n r i cs h
   obtain⟨p1,p2⟩:=p
   exact⟨cs0,h1,by rw[lk_cons_ne _ _ (by dsimp only at*;omega)];exact h2,h3⟩
theorem upL_lk(n:Nat):∀(lv:List (Nat×Option Nat)) (i:Nat),n≤i∧lk i (upL n lv)=lk (i - n) lv∨i < n∧lk i (upL n lv)=none
 | [],i=>by
  rcases Nat.lt_or_ge i n with h | h
  ·exact .inr ⟨h,rfl⟩
  ·exact .inl ⟨h,rfl⟩
 | p::r,i=>by
  obtain⟨p1,p2⟩:=p
  rw[upL]
  by_cases hi:i=n+p1
  ·subst hi
   exact .inl ⟨by omega,by rw[lk_cons_eq,Nat.add_sub_cancel_left,lk_cons_eq]⟩
  ·rw[lk_cons_ne _ _ hi]
   rcases upL_lk n r i with⟨h1,h2⟩ | ⟨h1,h2⟩
   ·exact .inl ⟨h1,by rw[h2,lk_cons_ne _ _ (by omega)]⟩
   ·exact .inr ⟨h1,h2⟩
theorem upL_get{n:Nat}{lv:List (Nat×Option Nat)}{i e:Nat}(h:lget (upL n lv) i=some e):n≤i∧lget lv (i - n)=some e:=by
 unfold lget at h ⊢
 rcases upL_lk n lv i with⟨h1,h2⟩ | ⟨h1,h2⟩
 ·rw[h2] at h;exact⟨h1,h⟩
 ·rw[h2] at h;cases h
def St.headI (n:Nat)(args:List T)(bs:List (Nat×List T))(lv:List (Nat×Option Nat)):St:={n:=n,env:=argsE 0 (rnTs (upN n) (upN n) args),bs:=upB n bs,lv:=upL n lv}
theorem headI{args:List T}{bs:List (Nat×List T)}{lv:List (Nat×Option Nat)}{n base:Nat}{S:Nat→Prop}{w:World}{g:Gh}{vs:List Value}(hn:Nat.ble args.length n=true)(hE:X.E w)(hb:base≤w.heap.size)(hm:Mm P X base S w g bs lv)(hargs:RepTs P w g args vs):
  Hd P X base S (St.headI n args bs lv) {tmps:=vs.toArray++Array.replicate (n - vs.toArray.size) undef,defers:=[]} w (g.via (dnN n) (dnN n)):=by
 have hn':=Nat.le_of_ble_eq_true hn
 have hvl:=hargs.length
 have hg:(g.via (dnN n) (dnN n)).via (upN n) (upN n)=g:=by
  unfold Gh.via
  congr 1
  ·funext i;exact congrArg g.ρ (congrFun (dn_up n) i)
  ·funext i;exact congrArg g.κ (congrFun (dn_up n) i)
 have hsh:RepTs P w (g.via (dnN n) (dnN n)) (rnTs (upN n) (upN n) args) vs:=(rnTs_rep args vs).2 (by rw[hg];exact hargs)
 refine⟨by simp[St.headI];omega,fun t=>?_,?_,hE,hb⟩
 ·have:=argsE_get 0 t hsh
  rw[if_neg (by omega),Nat.sub_zero] at this
  refine Eq.mpr ?_ this
  congr 1
  show((vs.toArray++Array.replicate (n - vs.toArray.size) undef).getD t undef)=_
  rw[Array.getD_eq_getD_getElem?,List.getD_eq_getElem?_getD]
  by_cases ht:t < vs.length
  ·rw[Array.getElem?_append_left (by simpa using ht)];simp
  ·rw[Array.getElem?_append_right (by simpa using ht),List.getElem?_eq_none (by omega)]
   by_cases h2:t - vs.toArray.size < n - vs.toArray.size
   ·rw[Array.getElem?_replicate,if_pos h2];rfl
   ·rw[Array.getElem?_replicate,if_neg h2]
 ·have ge:∀{i:Nat},isK (upB n bs) i→n≤i:=fun {i} hi=>by
   unfold isK at hi
   obtain⟨cs,hcs⟩:=Option.isSome_iff_exists.1 hi
   exact(upB_lk n bs i cs hcs).choose_spec.1
  refine hm.via (fun {i cs} hi=>?_) (fun {i j} hi hj hij=>?_) (fun {k e} hk=>(upL_get hk).2) (fun {k k' e e'} hk hk' hne=>?_)
  ·obtain⟨cs0,h1,h2,rfl⟩:=upB_lk n bs i cs hi
   refine⟨cs0,h2,?_⟩
   rw[rns_back]
   exact LeEs.refl _
  ·have h1:=ge hi
   have h2:=ge hj
   unfold dnN;omega
  ·have h1:=(upL_get hk).1
   have h2:=(upL_get hk').1
   unfold dnN;omega
def upA(al:List (Nat×Nat))(n i:Nat):Nat:=match lk i al with
 | some s=>s
 | none=>n+i
def injA:List (Nat×Nat)→Bool
 | []=>true
 | p::r=>(r.all fun q=> !Nat.beq p.2 q.2)&&injA r
def alOk(al:List (Nat×Nat))(n:Nat):Bool:=(al.all fun p=>Nat.blt p.2 n)&&injA al
theorem upA_ne{al:List (Nat×Nat)}{n i:Nat}(h:i∉al.map Prod.fst):upA al n i=n+i:=by
 unfold upA
 cases hl:lk i al with
 | none=>rfl
 | some s=>exact absurd (List.mem_map.2 ⟨_,lk_mem hl,rfl⟩) h
theorem injA_eq:∀{al:List (Nat×Nat)} {i j s:Nat},injA al=true→lk i al=some s→lk j al=some s→i=j
 | p::r,i,j,s,h,hi,hj=>by
  unfold injA at h
  rw[Bool.and_eq_true] at h
  have key:∀{k:Nat},lk k r=some s→p.2≠s:=fun {k} hk e=>by
   have:=List.all_eq_true.1 h.1 _ (lk_mem hk)
   rw[←e] at this
   rw[show Nat.beq p.2 p.2=true from Nat.beq_refl _] at this
   cases this
  obtain⟨p1,p2⟩:=p
  by_cases e1:i=p1
  ·by_cases e2:j=p1
   ·exact e1.trans e2.symm
   ·subst e1
    rw[lk_cons_eq] at hi
    rw[lk_cons_ne _ _ e2] at hj
    exact absurd (Option.some.inj hi) (key hj)
  ·rw[lk_cons_ne _ _ e1] at hi
   by_cases e2:j=p1
   ·subst e2
    rw[lk_cons_eq] at hj
    exact absurd (Option.some.inj hj) (key hi)
   ·rw[lk_cons_ne _ _ e2] at hj
    exact injA_eq h.2 hi hj
theorem upA_inj{al:List (Nat×Nat)}{n i j:Nat}(h:alOk al n=true)(hij:i≠j):upA al n i≠upA al n j:=by
 unfold alOk at h
 rw[Bool.and_eq_true] at h
 have lt:∀{k s:Nat},lk k al=some s→s < n:=fun hk=>by
  have:=List.all_eq_true.1 h.1 _ (lk_mem hk)
  rwa [Nat.blt_eq] at this
 unfold upA
 cases h1:lk i al <;> cases h2:lk j al <;> dsimp only
 ·omega
 ·have:=lt h2;omega
 ·have:=lt h1;omega
 ·exact fun e=>hij (injA_eq h.2 h1 (by rw[h2,e]))
def bsEnd(st:St)(α π:Nat→Nat):List (Nat×List T)→Prop
 | []=>True
 | p::r=>(match lk (α p.1) st.bs with
  | some c=>LeEs c (rnTs α π p.2)
  | none=>False)∧bsEnd st α π r
def lvEnd(st:St)(π:Nat→Nat):List (Nat×Option Nat)→Prop
 | []=>True
 | p::r=>(match p.2 with
  | some e=>lget st.lv (π p.1)=some e
  | none=>True)∧lvEnd st π r
def lvInj(π:Nat→Nat):List (Nat×Option Nat)→List Nat
 | []=>[]
 | p::r=>π p.1::lvInj π r
theorem bsEnd_get{st:St}{α π:Nat→Nat}:∀{bs:List (Nat×List T)} {i:Nat} {cs:List T},bsEnd st α π bs→lk i bs=some cs→∃c1,lk (α i) st.bs=some c1∧LeEs c1 (rnTs α π cs)
 | [],_,_,_,h=>by cases h
 | p::r,i,cs,h,hi=>by
  obtain⟨p1,p2⟩:=p
  by_cases e:i=p1
  ·subst e
   rw[lk_cons_eq] at hi
   cases hi
   obtain⟨h1,_⟩:=h
   split at h1
   ·rename_i c hc;exact⟨c,hc,h1⟩
   ·exact h1.elim
  ·rw[lk_cons_ne _ _ e] at hi
   exact bsEnd_get h.2 hi
theorem lvEnd_get{st:St}{π:Nat→Nat}:∀{lv:List (Nat×Option Nat)} {k e:Nat},lvEnd st π lv→lget lv k=some e→lget st.lv (π k)=some e
 | [],_,_,_,h=>by cases h
 | p::r,k,e,h,hk=>by
  obtain⟨p1,p2⟩:=p
  by_cases e0:k=p1
  ·subst e0
   unfold lget at hk
   rw[lk_cons_eq] at hk
   cases p2 with
   | none=>cases hk
   | some e1=>
    cases hk
    exact h.1
  ·unfold lget at hk
   rw[lk_cons_ne _ _ e0] at hk
   exact lvEnd_get h.2 hk
theorem lvInj_ne{π:Nat→Nat}:∀{lv:List (Nat×Option Nat)} {k k' e e':Nat},nodupB (lvInj π lv)=true→lget lv k=some e→lget lv k'=some e'→k≠k'→π k≠π k':=by
 intro lv k k' e e' hn hk hk' hne
 have mem:∀{lv:List (Nat×Option Nat)} {k e:Nat},lget lv k=some e→∃j:Nat,(lv[j]?).map (·.1)=some k:=by
  intro lv
  induction lv with
  | nil=>intro k e h;cases h
  | cons p r ih=>
   intro k e h
   obtain⟨p1,p2⟩:=p
   by_cases e0:k=p1
   ·exact⟨0,by rw[e0];rfl⟩
   ·unfold lget at h
    rw[lk_cons_ne _ _ e0] at h
    obtain⟨j,hj⟩:=ih (k:=k) (e:=e) h
    exact⟨j+1,by simpa using hj⟩
 have at_:∀(lv:List (Nat×Option Nat)) (j:Nat),(lvInj π lv)[j]? =(lv[j]?).map fun p=>π p.1:=by
  intro lv
  induction lv with
  | nil=>intro j;rfl
  | cons p r ih=>
   intro j
   cases j with
   | zero=>rfl
   | succ j=>simpa [lvInj] using ih j
 obtain⟨j,hj⟩:=mem hk
 obtain⟨j',hj'⟩:=mem hk'
 have e1:(lvInj π lv)[j]? =some (π k):=by
  rw[at_]
  obtain⟨q,hq,rfl⟩:=Option.map_eq_some_iff.1 hj
  rw[hq];rfl
 have e2:(lvInj π lv)[j']? =some (π k'):=by
  rw[at_]
  obtain⟨q,hq,rfl⟩:=Option.map_eq_some_iff.1 hj'
  rw[hq];rfl
 intro e
 have hjj:j≠j':=by rintro rfl;rw[hj] at hj';exact hne (Option.some.inj hj')
 exact hjj (nodupB_ne hn e1 (by rw[e];exact e2))
def endQI(tb:Tab)(rs:List ResultVar)(r:T)(α π:Nat→Nat)(bs':List (Nat×List T))(lv':List (Nat×Option Nat)):Exit→St→Prop
 | .normal,st=>match resTs tb st rs with
  | some ts=>resOkI ts (rnT α π r)∧bsEnd st α π bs'∧lvEnd st π lv'
  | none=>False
 | .ret,st=>match resTs tb st rs with
  | some ts=>resOkI ts (rnT α π r)∧bsEnd st α π bs'∧lvEnd st π lv'
  | none=>False
 | _,_=>False
theorem fnI_of(hT:TabOk P tb)(hm:P.follows .mixedOrders=true){f:FuncId}{fn:Func}{c:Code}{args:List T}{bs bs':List (Nat×List T)}{lv lv':List (Nat×Option Nat)}{r:T}(al:List (Nat×Nat))(π:Nat→Nat)(hf:P.funcs[f]? =some fn)(hb:fn.body=some c)
  (hen:∀(vs:Array Value) (w:World),(callFunc f vs).run P w=.ok (.enter f vs) w) (hn:Nat.ble args.length fn.ntmps=true) (hinj:nodupB (lvInj π lv')=true) (hal:alOk al fn.ntmps=true)
  (h:aCode P X tb c (endQI tb fn.results.toList r (upA al fn.ntmps) π bs' lv') (St.headI fn.ntmps args bs lv)):FnI P X f args bs lv r bs' lv' (al.map Prod.fst):=by
 refine⟨hen,fun X' hX base S w g vs hE hba hmm hargs=>?_⟩
 have hd:=headI (n:=fn.ntmps) hn hE hba hmm hargs
 have hw:=code_wp hT hm c X' hX base fn.ntmps S Fence.wide 1 (.inl rfl) (fun _=>True) (fun _ _=>trivial) _ _ _ w _ (fun ch st h=>h.elim) (fun l hl=>by cases hl) h hd rfl
 refine callsIn_wide.1 (callsIn_of_wp_marks (n:=1) hf hb trivial (wpIn_mono hw ?_))
 rintro e a' w' ⟨st',g',q1,q2,q3,q4,q5,ms,q6,q7⟩
 rw[List.append_nil] at q6
 have fin:(match resTs tb st' fn.results.toList with | some ts=>resOkI ts (rnT (upA al fn.ntmps) π r)∧bsEnd st' (upA al fn.ntmps) π bs'∧lvEnd st' π lv' | none=>False)→LeavesInM Fence.wide 1 P fn a'.tmps (fun e w'=>∃v g',e=.returned v∧X'.E w'∧Stp X' base S (bndN (al.map Prod.fst)) w g w' g'∧(∀i,i∉al.map Prod.fst→g'.ρ i=g.ρ i)∧Mm P X' base S w' g' bs' lv'∧RepT P w' g' r v) a'.defers .returning w':=fun hr=>by
  split at hr
  ·rename_i ts hts
   obtain⟨hr,hbe,hle⟩:=hr
   rw[q6]
   refine leaves_marks hT hE ms st' a' w' g' q2 q7 hts hr fun v w2 hu hd2 hrv=>?_
   have hρ:∀i,i∉al.map Prod.fst→(g'.via (upA al fn.ntmps) π).ρ i=g.ρ i:=fun i hi=>by
    show g'.ρ (upA al fn.ntmps i)=g.ρ i
    rw[upA_ne hi,q3.rho (Nat.le_add_right _ _)]
    exact congrArg g.ρ (congrFun (dn_up fn.ntmps) i)
   have hu1:=q3.upd
   refine⟨v,g'.via (upA al fn.ntmps) π,rfl,hd2.E,⟨hu1.trans (hu.mono fun b h=>.inr (Nat.le_trans hba h)),⟨fun b o u h1 h2=>?_,fun k o h1 h2=>(hu.block k (Array.getElem?_eq_some_iff.1 (q3.same.m k o h1 h2)).1 (by have:=(Array.getElem?_eq_some_iff.1 h1).1;omega)).trans (q3.same.m k o h1 h2)⟩,fun {b o} h=>q3.newL h,fun {i} hi=>hρ i (bndN_not hi),fun {k o} hk hc=>?_⟩,hρ,hd2.mm.via (fun {i cs} hi=>bsEnd_get hbe hi) (fun {i j} _ _ hij=>upA_inj hal hij) (fun {k e} hk=>lvEnd_get hle hk) (fun {k k' e e'} hk hk' hne=>lvInj_ne hinj hk hk' hne),(rnT_rep r v).1 hrv⟩
   ·obtain⟨h3,h4⟩:=q3.same.c b o u h1 h2
    have hbl:=World.block_lt_of_cell? w _ h2
    exact⟨h3,hu.cell h4 (by dsimp only at*;omega)⟩
   ·have h1:=q3.obj hk hc
    have hlt:=(Array.getElem?_eq_some_iff.1 hk).1
    rw[hu.block k (Nat.lt_of_lt_of_le hlt hu1.size) (by omega)]
    exact h1
  ·exact hr.elim
 cases e with
 | normal=>exact fin q1
 | ret=>exact fin q1
 | exit id=>exact q1.elim
 | goto l=>exact q1.elim
 | panic ch=>exact q1.elim
 | outgrown=>exact q1.elim
theorem fnI_prog(hT:TabOk P tb)(hm:P.follows .mixedOrders=true){f:FuncId}(fn:Func){args:List T}{bs bs':List (Nat×List T)}{lv lv':List (Nat×Option Nat)}{r:T}(al:List (Nat×Nat))(π:Nat→Nat)(hf:P.funcs[f]? =some fn)(hb:(fn.name== "runtime.NumGoroutine" ||fn.body.isNone)=false)(hn:Nat.ble args.length fn.ntmps=true)(hinj:nodupB (lvInj π lv')=true)(hal:alOk al fn.ntmps=true)
  (h:aCode P X tb (bodyOf fn) (endQI tb fn.results.toList r (upA al fn.ntmps) π bs' lv') (St.headI fn.ntmps args bs lv)):FnI P X f args bs lv r bs' lv' (al.map Prod.fst):=by
 cases hc:fn.body with
 | none=>rw[hc] at hb;simp at hb
 | some c=>
  refine fnI_of hT hm al π hf hc (enter_of (by rw[hf,Option.map_some,hb])) hn hinj hal ?_
  unfold bodyOf at h
  rw[hc] at h
  exact h
theorem FnI.of_below {f:FuncId}{args:List T}{bs:List (Nat×List T)}{lv:List (Nat×Option Nat)}{r:T}(hen:∀(vs:Array Value) (w:World),(callFunc f vs).run P w=.ok (.enter f vs) w)
  (h:∀(w:World) (g:Gh) (vs:List Value),X.E w→(∀{b o},g.L b o→∃u,w.cell? ⟨b,o,none⟩=some u)→RepTs P w g args vs→Calls P f vs.toArray w fun e w'=>∃v L',e=.returned v∧Below w.heap.size w w'∧Same g.L w L' w'∧(∀{b o},L' b o→g.L b o∨w.heap.size≤b)∧(∀{b o},L' b o→∃u,w'.cell? ⟨b,o,none⟩=some u)∧RepT P w' {g with L:=L'} r v):FnI P X f args bs lv r bs lv []:=by
 refine⟨hen,fun X' hX base S w g vs hE hba hmm hargs=>?_⟩
 refine(h w g vs (hX.e w hE) hmm.Lc hargs).mono ?_
 rintro e w' ⟨v,L',rfl,hb,hs,hn,hl,hr⟩
 have hd:Hd P X' base S ⟨0,[],bs,lv⟩ ⟨#[],[]⟩ w g:=⟨rfl,fun _=>trivial,hmm,hE,hba⟩
 obtain⟨d1,d2,_⟩:=hd.below (N:=0) hb hs hn hl
 exact⟨v,_,rfl,d1.E,d2,fun _ _=>rfl,d1.mm,hr⟩
theorem FnI.of_fn {f:FuncId}{args:List T}{bs:List (Nat×List T)}{lv:List (Nat×Option Nat)}{r:T}(h:Fn P X f args r)(ha:T.pures args=true)(hr:r.pure=true):FnI P X f args bs lv r bs lv []:=
 .of_below h.1 fun w g vs hE hL hv=>(h.2 w g.L vs hE hL (RepTs.pure (g:=g) (g':=⟨g.L,fun _=>(0,0),fun _=>undef⟩) ha (Same.refl _ _) hv)).mono fun e w' ⟨v,L',h1,h2,h3,h4,h5,h6⟩=>
  ⟨v,L',h1,h2,h3,h4,h5,RepT.pure (g:=⟨L',fun _=>(0,0),fun _=>undef⟩) (g':={g with L:=L'}) hr (Same.refl _ _) h6⟩
theorem st_callE(nw:List Nat){f:FuncId}{P:Program}{X:En}{n:Nat}{env:List (Nat×T)}{bs bs':List (Nat×List T)}{lv lv':List (Nat×Option Nat)}{as0 args:List T}{r:T}{K:T→St→Prop}(h:FnI P X f args bs lv r bs' lv' nw)(hl:LeEs as0 args)(hw:nwOk n nw=true){Z:Prop}(hK:frcAll (St.mk n (scrEnv (scrN nw) env) bs' lv') fun st'=>K r st'):
  Z∨∃(nw:List Nat) (args:List T) (r:T) (bs':List (Nat×List T)) (lv':List (Nat×Option Nat)),(Cn P X).inl f args bs lv r bs' lv' nw∧LeEs as0 args∧nwOk n nw=true∧frcAll (St.mk n (scrEnv (scrN nw) env) bs' lv') fun st'=>K r st':=
 .inr ⟨nw,args,r,bs',lv',h,hl,hw,hK⟩
theorem st_callN(nw:List Nat){f:FuncId}{P:Program}{X:En}{n:Nat}{env:List (Nat×T)}{bs bs':List (Nat×List T)}{lv lv':List (Nat×Option Nat)}{as0 args:List T}{r:T}{K:T→St→Prop}(h:FnI P X f args bs lv r bs' lv' nw)(hl:LeTs as0 args)(hw:nwOk n nw=true){Z:Prop}(hK:frcAll (St.mk n (scrEnv (scrN nw) env) bs' lv') fun st'=>K r st'):
  Z∨∃(nw:List Nat) (args:List T) (r:T) (bs':List (Nat×List T)) (lv':List (Nat×Option Nat)),(Cn P X).inl f args bs lv r bs' lv' nw∧LeEs as0 args∧nwOk n nw=true∧frcAll (St.mk n (scrEnv (scrN nw) env) bs' lv') fun st'=>K r st':=
 st_callE nw h (.of hl) hw hK
end Go.Proofs.YtknelogmocedeaaGreatDoor
namespace Go.Proofs.YtknelogmocedeaaGreatDoor
open Go.RowKit
set_option linter.unusedVariables false
variable {P : Program} {X : En} {base N : Nat} {S : Nat → Prop} {tb : Tab} {F : Fence} {n : Nat}
theorem cell_put{W:World}{r b q:Nat}{o o0:Obj}{u:Value}(hr:W.heap[r]? =some o0)(h0:o0.isCells=false)(hc:W.cell? ⟨b,q,none⟩=some u):(W.putObj r o).cell? ⟨b,q,none⟩=some u:=by
 by_cases hb:b=r
 ·subst hb
  unfold World.cell? at hc
  dsimp only at hc
  rw[hr] at hc
  cases o0 <;> first | (cases h0;done) | cases hc
 ·rw[cell_old (World.putObj_heap_other hb)];exact hc
theorem Stp.put {w W:World}{g g':Gh}{r:Nat}{o o0:Obj}(h:Stp X base S N w g W g')(hr:W.heap[r]? =some o0)(h0:o0.isCells=false)(hm:isMapO o0=false)(hw:w.heap.size≤r):Stp X base S N w g (W.putObj r o) g':=by
 have hu:=putObj_upd W r o
 refine⟨⟨hu.os.trans h.upd.os,hu.tape.trans h.upd.tape,hu.output.trans h.upd.output,Nat.le_trans h.upd.size hu.size,fun k hk hs=>?_⟩,⟨fun b q u h1 h2=>?_,h.same.m.trans (.putObj hr hm)⟩,h.newL,h.rho,fun {k o'} hk hc=>?_⟩
 ·rw[World.putObj_heap_other (by omega)];exact h.upd.block k hk hs
 ·obtain⟨h3,h4⟩:=h.same.c b q u h1 h2
  exact⟨h3,cell_put hr h0 h4⟩
 ·have:=(Array.getElem?_eq_some_iff.1 hk).1
  rw[World.putObj_heap_other (by omega)]
  exact h.obj hk hc
theorem RepW.get {w:World}{L:Lv}:∀{l:List V} {cs:List Value} {i:Nat} {x:V},RepW w L l cs→l[i]? =some x→∃u,cs[i]? =some u∧Rep w L x u
 | [],_,_,_,_,h=>by simp at h
 | y::xs,_,0,x,⟨u,us,e,r,_⟩,h=>by simp at h;subst h;exact⟨u,by rw[e];rfl,r⟩
 | y::xs,_,i+1,x,⟨u,us,e,_,rs⟩,h=>by
  obtain⟨z,hz,r⟩:=rs.get (i:=i) (by simpa using h)
  exact⟨z,by rw[e];simpa using hz,r⟩
end Go.Proofs.YtknelogmocedeaaGreatDoor
