/- Several texts, one behind the other. Plain laws on texts, their runes and bytes. No program. Which texts are types of names: plain functions. No program. Plain: bytes of texts, a text up to a byte, names of attributes. No program. tlv, plain: trees of tags, which are right, their bytes, trees of bytes; what is laid, read, is that; what is read has bytes that are no more. No program. tlv, plain: what is read has bytes that are no more than those it was read of; equality of trees. No program. prim, plain: numbers in as few bytes as can be. No program. What the package-level variables of this seat hold: each sentinel error a pointer of its own, errors.errorType its handle. Conditions: none (definitions, and that they live on in later worlds). A world that turned into a later one: what is no block of a given kind lies as it lay. No conditions. Values without memory: what a text computes with, how such a value lies in a world, that it lies so in later worlds. Of whatever program. No conditions. -/
import Derived.Shelf.GgClosure.StringsIndexFunc
import Derived.Laws.RangeAny
import Derived.Lib.OthersKept
import Derived.Lib.Split
import Derived.Lib.SplitLaws
import Derived.Lib.IndexBytes
import Derived.Test.YtknelogmocedeaaGreatDoorProg
import Derived.Below
import Derived.KernelRfl
import Derived.RangeFuncRecord
import Derived.WalkKit
import Derived.Deep.QuietTactic
import Derived.Laws.AppendOwn
import Derived.Maps.AppendAt
namespace Go.Proofs.YtknelogmocedeaaGreatDoor.Txt
open Go
set_option linter.unusedVariables false
theorem bl(s:ByteArray):s.toList=s.data.toList:=ByteArray.toList_eq s
theorem size_list(s:ByteArray):s.data.toList.length=s.size:=by rw[Array.length_toList];rfl
theorem mk_list(s:ByteArray):(⟨s.data.toList.toArray⟩:ByteArray)=s:=by simp
theorem size_mk(l:List UInt8):(⟨l.toArray⟩:ByteArray).size=l.length:=by show l.toArray.size=_;simp
theorem drop_cons(s:ByteArray)(pos:Nat)(h:pos < s.size):s.data.toList.drop pos=s[pos]::s.data.toList.drop (pos+1):=by
 rw[List.drop_eq_getElem_cons (by rw[size_list];exact h)];rfl
theorem take_snoc(s:ByteArray)(pos:Nat)(h:pos < s.size):s.data.toList.take (pos+1)=s.data.toList.take pos++[s[pos]]:=by
 rw[List.take_succ_eq_append_getElem (by rw[size_list];exact h)];rfl
theorem idx_from(p:Nat→Bool)(hp:∀r,128≤r→p r=true)(s:ByteArray):∀f pos,s.size≤pos+f→decide (0≤Lib.idxFuncFrom p true s f pos)=(s.data.toList.drop pos).any (fun c=>p c.toNat)
 | 0,pos,h=>by
  rw[Lib.idxFuncFrom_end p true s 0 pos (by omega),List.drop_eq_nil_of_le (by rw[size_list];omega)];rfl
 | f + 1, pos, h => by
  by_cases hlt:pos < s.size
  ·rw[drop_cons s pos hlt,List.any_cons]
   unfold Lib.idxFuncFrom
   rw[if_pos hlt]
   by_cases ha:(s[pos]).toNat < 128
   ·rw[decode_ascii s pos hlt ha]
    dsimp only
    by_cases hq:p (s[pos]).toNat=true
    ·rw[if_pos hq,hq];simp
    ·rw[if_neg hq,idx_from p hp s f (pos+1) (by omega)]
     simp[hq]
   ·have hh:=decode_high s pos hlt (by omega)
    rw[if_pos (hp _ hh.1),hp _ (by omega)]
    simp
  ·rw[Lib.idxFuncFrom_end p true s _ pos hlt,List.drop_eq_nil_of_le (by rw[size_list];omega)];rfl
theorem idx_any(p:Nat→Bool)(hp:∀r,128≤r→p r=true)(s:ByteArray):decide (0≤Lib.idxFunc p true s)=s.data.toList.any (fun c=>p c.toNat):=by
 unfold Lib.idxFunc
 rw[idx_from p hp s s.size 0 (by omega),List.drop_zero]
end Go.Proofs.YtknelogmocedeaaGreatDoor.Txt
namespace Go.Proofs.YtknelogmocedeaaGreatDoor.Txt
open Go Go.Lib
def splitOn(c:UInt8):List UInt8→List (List UInt8)
 | []=>[[]]
 | x::t=>if x=c then []::splitOn c t else match splitOn c t with
  | []=>[[x]]
  | h::r=>(x::h)::r
theorem splitOn_ne(c:UInt8)(l:List UInt8):splitOn c l≠[]:=by
 cases l with
 | nil=>simp[splitOn]
 | cons x t=>
  unfold splitOn
  split
  ·simp
  ·split <;> simp
theorem index_cons(c x:UInt8)(t:List UInt8):index (x::t) [c]=if x=c then 0 else if index t [c]= -1 then -1 else index t [c]+1:=by
 rw[index_one,index_one]
 show(if(x==c)=true then _ else _)=_
 simp only[beq_iff_eq]
theorem splitK_one(c:UInt8):∀l:List UInt8,splitK [c] 0 (l.count c) l=splitOn c l
 | []=>rfl
 | x :: t => by
  have ih:=splitK_one c t
  have hg:=index_ge t [c]
  by_cases hx:x=c
  ·subst hx
   rw[List.count_cons_self]
   unfold splitOn splitK
   rw[index_cons,if_pos rfl,if_pos rfl]
   simpa using ih
  ·rw[List.count_cons_of_ne (by simpa using hx)]
   unfold splitOn
   rw[if_neg hx]
   rw[←ih]
   cases hc:t.count c with
   | zero=>rfl
   | succ k=>
    unfold splitK
    rw[index_cons,if_neg hx]
    by_cases hi:index t [c]= -1
    ·simp[hi]
    ·have h1:¬(index t [c]+1== -1)=true:=fun e=>by have:=beq_iff_eq.1 e;omega
     have h2:¬(index t [c]== -1)=true:=fun e=>hi (beq_iff_eq.1 e)
     rw[if_neg hi,if_neg h1,if_neg h2]
     have e1:(index t [c]+1).toNat=(index t [c]).toNat+1:=by omega
     simp only[e1,List.length_singleton,Nat.add_zero,List.take_succ_cons]
     rw[show(index t [c]).toNat+1+1=((index t [c]).toNat+1)+1 from rfl,List.drop_succ_cons]
theorem split_one(s:ByteArray)(c:UInt8):(splitB ⟨#[c]⟩ 0 (countB s ⟨#[c]⟩) s).map (·.data.toList)=splitOn c s.data.toList∧(splitB ⟨#[c]⟩ 0 (countB s ⟨#[c]⟩) s).length=countB s ⟨#[c]⟩+1:=by
 refine⟨?_,splitB_all ⟨#[c]⟩ (Nat.le_refl 1) 0 _ s rfl⟩
 rw[splitB_data]
 have:countB s ⟨#[c]⟩=s.data.toList.count c:=count_one c s.data.toList
 rw[this]
 exact splitK_one c _
theorem index_mem(c:UInt8):∀l:List UInt8,decide (0≤indexByte l c)=l.contains c
 | []=>rfl
 | x::t=>by
  have ih:=index_mem c t
  have hg:=indexByte_ge t c
  unfold indexByte
  by_cases hx:x=c
  ·subst hx;simp
  ·rw[List.contains_cons,←ih]
   have hx2:(c==x)=false:=by simp[Ne.symm hx]
   have hx3:(x==c)=false:=by simp[hx]
   rw[hx2,hx3]
   by_cases h1:indexByte t c= -1
   ·simp[h1]
   ·have:(indexByte t c== -1)=false:=by simp[h1]
    rw[this]
    simp only[Bool.false_eq_true,if_false,Bool.false_or,decide_eq_decide]
    omega
end Go.Proofs.YtknelogmocedeaaGreatDoor.Txt
namespace Go.Proofs.YtknelogmocedeaaGreatDoor.Dn
set_option linter.unusedVariables false
def letter(c:UInt8):Bool:=(decide (97≤c.toNat)&&decide (c.toNat≤122))||(decide (65≤c.toNat)&&decide (c.toNat≤90))
def digit(c:UInt8):Bool:=decide (48≤c.toNat)&&decide (c.toNat≤57)
def keyRest(c:UInt8):Bool:=letter c||digit c||decide (c.toNat=45)
def keyB:List UInt8→Bool
 | []=>false
 | c::t=>letter c&&t.all keyRest
def numB(l:List UInt8):Bool:= !l.isEmpty&&(l.all digit&&(decide (l=[48])||decide (l.head?≠some 48)))
def typeB(l:List UInt8):Bool:=decide (l.length≤20)&&(keyB l||(l.contains 46&&(Txt.splitOn 46 l).all numB))
theorem keyB_snoc(l:List UInt8)(h:l≠[])(c:UInt8):keyB (l++[c])=(keyB l&&keyRest c):=by
 cases l with
 | nil=>exact absurd rfl h
 | cons x t=>simp[keyB,Bool.and_assoc]
theorem keyB_false(l r:List UInt8)(h:l≠[])(hk:keyB l=false):keyB (l++r)=false:=by
 cases l with
 | nil=>exact absurd rfl h
 | cons x t=>
  simp only[keyB,Bool.and_eq_false_iff,List.cons_append,List.all_append] at hk ⊢
  rcases hk with h | h
  ·exact .inl h
  ·exact .inr (.inl h)
end Go.Proofs.YtknelogmocedeaaGreatDoor.Dn
namespace Go.Proofs.YtknelogmocedeaaGreatDoor.Fl
open Go.Lib
set_option linter.unusedVariables false
abbrev bl(s:ByteArray):List UInt8:=s.data.toList
def optB(s:List UInt8):Bool:= !s.isEmpty&&s.all Dn.keyRest
def nameB(s:List UInt8):Bool:=decide (s.length≤30)&&(match Txt.splitOn 59 s with
 | []=>false
 | t::r=>Dn.typeB t&&r.all optB)
def cutL(c:UInt8):List UInt8→Option (List UInt8×List UInt8)
 | []=>none
 | x::t=>if x=c then some ([],t) else(cutL c t).map fun p=>(x::p.1,p.2)
def bt'(l:List UInt8):ByteArray:=⟨l.toArray⟩
theorem bl_bt(s:ByteArray):bt' (bl s)=s:=rfl
theorem bl_of(l:List UInt8):bl (bt' l)=l:=by simp[bl,bt']
theorem size_bl(s:ByteArray):(bl s).length=s.size:=Txt.size_list s
theorem size_zero{s:ByteArray}(h:s.size=0):s=bt' []:=ByteArray.ext (Array.eq_empty_of_size_eq_zero h)
end Go.Proofs.YtknelogmocedeaaGreatDoor.Fl
namespace Go.Proofs.YtknelogmocedeaaGreatDoor.Tl
open Go.Lib
open Fl (bl bt' bl_bt bl_of size_bl)
set_option linter.unusedVariables false
inductive Nd where
 | mk (tag:Int) (data:ByteArray) (kids:List Nd)
def Nd.tag:Nd→Int | .mk t _ _=>t
def Nd.data:Nd→ByteArray | .mk _ d _=>d
def Nd.kids:Nd→List Nd | .mk _ _ k=>k
def be(n:Nat):List UInt8:=
 if n < 256 then [UInt8.ofNat n] else if n < 65536 then [UInt8.ofNat (n / 256),UInt8.ofNat (n % 256)] else [UInt8.ofNat (n / 65536),UInt8.ofNat (n / 256 % 256),UInt8.ofNat (n % 256)]
def szL(n:Nat):List UInt8:=if n < 128 then [UInt8.ofNat n] else UInt8.ofNat (128+(be n).length)::be n
def valN:Nat→List UInt8→Nat
 | a,[]=>a
 | a,b::r=>valN (a*256+b.toNat) r
def szR:List UInt8→Except Nat (Nat×List UInt8)
 | []=>.error 10
 | b::r=>
  if b.toNat < 128 then .ok (b.toNat,r)
  else if b.toNat=128∨132 < b.toNat then .error 11
  else if r.length < b.toNat - 128 then .error 10
  else if 16777215 < valN 0 (r.take (b.toNat - 128)) then .error 12
  else .ok (valN 0 (r.take (b.toNat - 128)),r.drop (b.toNat - 128))
theorem be_len(n:Nat):1≤(be n).length∧(be n).length≤3:=by
 unfold be
 split
 ·simp
 ·split <;> simp
theorem szL_len(n:Nat):1≤(szL n).length∧(szL n).length≤4:=by
 unfold szL
 have:=be_len n
 split
 ·simp
 ·simp;omega
def innerN(t:Nat):Bool:=t / 32 % 2==1
def oneN:Nd→Bool
 | .mk t d k=>decide (0≤t)&&(decide (t≤255)&&(decide (t.toNat % 32≠31)&&if innerN t.toNat then decide (d.size=0) else k.isEmpty))
mutual
def preN:Nat→Nd→List (Nat×Nd)
 | d,.mk t x k=>(d,.mk t x k)::preNs (d+1) k
def preNs:Nat→List Nd→List (Nat×Nd)
 | _,[]=>[]
 | d,x::r=>preN d x++preNs d r
end
def okN(p:Nat×Nd):Bool:=decide (p.1≤12)&&(oneN p.2&&decide (p.2.data.size≤4000))
def shapedN(n:Nd):Bool:=decide ((preN 1 n).length≤200)&&(preN 1 n).all okN
mutual
def layN:Nd→List UInt8
 | .mk t d k=>UInt8.ofNat t.toNat::(szL (layNs k++bl d).length++(layNs k++bl d))
def layNs:List Nd→List UInt8
 | []=>[]
 | x::r=>layN x++layNs r
end
def rightN(n:Nd):Bool:=shapedN n&&decide ((layN n).length≤4000)
inductive TE where
 | short
 | tag
 | node
 | len (e:Nat)
def hdN(m c:Nat)(l:List UInt8):Except TE (Nat×List UInt8×List UInt8):=
 if 200 < c+1 then .error .node else if m=0 then .error .node else match l with
 | []=>.error .short
 | t::r=>if t.toNat % 32=31 then .error .tag else match szR r with
  | .error e=>.error (.len e)
  | .ok (n,r2)=>if r2.length < n then .error .short else .ok (t.toNat,r2.take n,r2.drop n)
theorem layN_ne(n:Nd):∃b l,layN n=b::l:=by cases n;exact⟨_,_,rfl⟩
end Go.Proofs.YtknelogmocedeaaGreatDoor.Tl
namespace Go.Proofs.YtknelogmocedeaaGreatDoor.Tl
open Go.Lib
open Fl (bl bt' bl_bt bl_of size_bl)
set_option linter.unusedVariables false
mutual
def sameN:Nd→Nd→Bool
 | .mk t d k,.mk t' d' k'=>decide (t=t')&&(decide (d=d')&&sameNs k k')
def sameNs:List Nd→List Nd→Bool
 | [],[]=>true
 | x::r,y::s=>sameN x y&&sameNs r s
 | _,_=>false
end
mutual
theorem sameN_iff:∀x y:Nd,sameN x y=true↔x=y
 | .mk t d k,.mk t' d' k'=>by
  rw[sameN]
  simp only[Bool.and_eq_true,decide_eq_true_eq,Nd.mk.injEq]
  rw[sameNs_iff k k']
theorem sameNs_iff:∀x y:List Nd,sameNs x y=true↔x=y
 | [],[]=>by simp[sameNs]
 | x::r,y::s=>by
  rw[sameNs]
  simp only[Bool.and_eq_true,List.cons.injEq]
  rw[sameN_iff x y,sameNs_iff r s]
 | [],y::s=>by simp[sameNs]
 | x::r,[]=>by simp[sameNs]
end
theorem sameN_refl(x:Nd):sameN x x=true:=(sameN_iff x x).2 rfl
end Go.Proofs.YtknelogmocedeaaGreatDoor.Tl
namespace Go.Proofs.YtknelogmocedeaaGreatDoor.Pr
open Go.Lib
open Fl (bl bt' bl_bt bl_of size_bl)
set_option linter.unusedVariables false
def half(w:Nat):Int:=2 ^ (8*w - 1)
def fitsB(w:Nat)(n:Int):Bool:=decide (-half w≤n)&&decide (n < half w)
def leastF:Nat→Nat→Int→Option Nat
 | 0,_,_=>none
 | f+1,w,n=>if fitsB w n=true then some w else leastF f (w+1) n
def leastW(n:Int):Option Nat:=leastF 4 1 n
def intL:Nat→Int→List UInt8
 | 0,_=>[]
 | w+1,n=>UInt8.ofNat ((n.fdiv (2 ^ (8*w))) % 256).toNat::intL w n
def signI(b:UInt8):Int:=if b.toNat < 128 then(b.toNat:Int) else(b.toNat:Int) - 256
def valF:Int→List UInt8→Int
 | a,[]=>a
 | a,b::r=>valF (a*256+b.toNat) r
def valL:List UInt8→Int
 | []=>0
 | b::r=>valF (signI b) r
def readI(l:List UInt8):Option Int:=if 1≤l.length∧l.length≤4∧leastW (valL l)=some l.length then some (valL l) else none
theorem half1:half 1=128:=rfl
theorem half2:half 2=32768:=rfl
theorem half3:half 3=8388608:=rfl
theorem half4:half 4=2147483648:=rfl
theorem intL_len:∀(w:Nat) (n:Int),(intL w n).length=w
 | 0,_=>rfl
 | w+1,n=>by rw[intL,List.length_cons,intL_len w n]
theorem least_some{n:Int}{w:Nat}(h:leastW n=some w):1≤w∧w≤4∧fitsB w n=true:=by
 simp only[leastW,leastF] at h
 split at h
 ·cases h;exact⟨by omega,by omega,by assumption⟩
 split at h
 ·cases h;exact⟨by omega,by omega,by assumption⟩
 split at h
 ·cases h;exact⟨by omega,by omega,by assumption⟩
 split at h
 ·cases h;exact⟨by omega,by omega,by assumption⟩
 ·cases h
theorem fits_iff(w:Nat)(n:Int):fitsB w n=true↔ -half w≤n∧n < half w:=by
 unfold fitsB
 rw[Bool.and_eq_true,decide_eq_true_eq,decide_eq_true_eq]
theorem least_in{n:Int}(h1: -2147483648≤n)(h2:n < 2147483648):∃w,leastW n=some w:=by
 simp only[leastW,leastF]
 split
 ·exact⟨_,rfl⟩
 split
 ·exact⟨_,rfl⟩
 split
 ·exact⟨_,rfl⟩
 rw[if_pos ((fits_iff 4 n).2 (by rw[half4];exact⟨h1,h2⟩))]
 exact⟨_,rfl⟩
theorem u8_of(k:Int):((UInt8.ofNat (k % 256).toNat).toNat:Int)=k % 256:=by
 rw[UInt8.toNat_ofNat']
 omega
theorem fdiv_pow(n:Int)(k:Nat):n.fdiv (2 ^ k)=n / (2 ^ k):=by
 rw[Int.fdiv_eq_ediv_of_nonneg]
 exact Int.le_of_lt (Int.pow_pos (by decide))
theorem sign_val(k:Int)(h1: -128≤k)(h2:k < 128):signI (UInt8.ofNat (k % 256).toNat)=k:=by
 have:=u8_of k
 unfold signI
 split <;> omega
theorem val_int(w:Nat)(n:Int)(hw:1≤w∧w≤4)(h:fitsB w n=true):valL (intL w n)=n:=by
 rw[fits_iff] at h
 obtain⟨h1,h2⟩:=h
 rcases show w=1∨w=2∨w=3∨w=4 by omega with rfl | rfl | rfl | rfl
 ·rw[half1] at h1 h2
  simp only[intL,valL,valF,fdiv_pow]
  have e:n / 2 ^ (8*0)=n:=by simp
  rw[e,sign_val n h1 h2]
 ·rw[half2] at h1 h2
  simp only[intL,valL,valF,fdiv_pow]
  rw[show(2:Int) ^ (8*1)=256 from rfl,show(2:Int) ^ (8*0)=1 from rfl,sign_val _ (by omega) (by omega),u8_of]
  omega
 ·rw[half3] at h1 h2
  simp only[intL,valL,valF,fdiv_pow]
  rw[show(2:Int) ^ (8*2)=65536 from rfl,show(2:Int) ^ (8*1)=256 from rfl,show(2:Int) ^ (8*0)=1 from rfl,sign_val _ (by omega) (by omega),u8_of,u8_of]
  omega
 ·rw[half4] at h1 h2
  simp only[intL,valL,valF,fdiv_pow]
  rw[show(2:Int) ^ (8*3)=16777216 from rfl,show(2:Int) ^ (8*2)=65536 from rfl,show(2:Int) ^ (8*1)=256 from rfl,show(2:Int) ^ (8*0)=1 from rfl,sign_val _ (by omega) (by omega),u8_of,u8_of,u8_of]
  omega
theorem read_int{n:Int}{w:Nat}(h:leastW n=some w):readI (intL w n)=some n:=by
 obtain⟨h1,h2,h3⟩:=least_some h
 have hv:=val_int w n ⟨h1,h2⟩ h3
 unfold readI
 rw[intL_len,hv,if_pos ⟨h1,h2,h⟩]
theorem ofNat_mod(b:UInt8)(k:Int)(h:k % 256=b.toNat):UInt8.ofNat (k % 256).toNat=b:=by
 rw[h,Int.toNat_natCast];simp
theorem sign_mod(b:UInt8):signI b % 256=b.toNat∧ -128≤signI b∧signI b < 128:=by
 have:=b.toNat_lt
 unfold signI
 split <;> omega
theorem int_val(l:List UInt8)(h:1≤l.length∧l.length≤4):intL l.length (valL l)=l∧ -2147483648≤valL l∧valL l < 2147483648:=by
 rcases l with _ | ⟨a,_ | ⟨b,_ | ⟨c,_ | ⟨d,_ | ⟨e,r⟩⟩⟩⟩⟩
 ·simp at h
 ·obtain⟨s1,s2,s3⟩:=sign_mod a
  simp only[List.length_cons,List.length_nil,intL,valL,valF,fdiv_pow]
  rw[show(2:Int) ^ (8*0)=1 from rfl,ofNat_mod a _ (by omega)]
  exact⟨rfl,by omega,by omega⟩
 ·obtain⟨s1,s2,s3⟩:=sign_mod a
  have hb:=b.toNat_lt
  simp only[List.length_cons,List.length_nil,intL,valL,valF,fdiv_pow]
  rw[show(2:Int) ^ (8*(0+1))=256 from rfl,show(2:Int) ^ (8*0)=1 from rfl,ofNat_mod a _ (by omega),ofNat_mod b _ (by omega)]
  exact⟨rfl,by omega,by omega⟩
 ·obtain⟨s1,s2,s3⟩:=sign_mod a
  have hb:=b.toNat_lt
  have hc:=c.toNat_lt
  simp only[List.length_cons,List.length_nil,intL,valL,valF,fdiv_pow]
  rw[show(2:Int) ^ (8*(0+1+1))=65536 from rfl,show(2:Int) ^ (8*(0+1))=256 from rfl,show(2:Int) ^ (8*0)=1 from rfl,ofNat_mod a _ (by omega),ofNat_mod b _ (by omega),ofNat_mod c _ (by omega)]
  exact⟨rfl,by omega,by omega⟩
 ·obtain⟨s1,s2,s3⟩:=sign_mod a
  have hb:=b.toNat_lt
  have hc:=c.toNat_lt
  have hd:=d.toNat_lt
  simp only[List.length_cons,List.length_nil,intL,valL,valF,fdiv_pow]
  rw[show(2:Int) ^ (8*(0+1+1+1))=16777216 from rfl,show(2:Int) ^ (8*(0+1+1))=65536 from rfl,show(2:Int) ^ (8*(0+1))=256 from rfl,show(2:Int) ^ (8*0)=1 from rfl,ofNat_mod a _ (by omega),ofNat_mod b _ (by omega),ofNat_mod c _ (by omega),ofNat_mod d _ (by omega)]
  exact⟨rfl,by omega,by omega⟩
 ·simp at h
end Go.Proofs.YtknelogmocedeaaGreatDoor.Pr
namespace Go.Proofs.YtknelogmocedeaaGreatDoor
open Go.RowKit
structure Aside(p:Prop):Prop where mk::(out:p)
theorem below_then{w w1 w2:World}(h:Below w.heap.size w w1)(k:Below w1.heap.size w1 w2):Below w.heap.size w w2:=h.trans (k.mono h.size)
def senNums:List Nat:=[0,1,2,3,4,5,6,8,10,11,12,13,14,17]
structure Globs(w:World)(p:Nat→Addr):Prop where
 cell:∀g,g∈senNums→w.cell? ⟨g,0,none⟩=some (.iface 348 (.pointer (some (p g))))
 blk:∀g,g∈senNums→∃c t,w.heap[(p g).block]? =some (.cells c t (0,0))
 inj:∀g h,g∈senNums→h∈senNums→g≠h→p g≠p h
 et:w.cell? ⟨7,0,none⟩=some (.iface 263 (.agg #[.pointer (some ⟨19,98,none⟩)]))
theorem Globs.below {w w':World}{p:Nat→Addr}(h:Globs w p)(hb:Below w.heap.size w w'):Globs w' p where
 cell:=fun g hg=>(hb.cell (World.block_lt_of_cell? w _ (h.cell g hg))).trans (h.cell g hg)
 blk:=fun g hg=>by
  obtain⟨c,t,hc⟩:=h.blk g hg
  exact⟨c,t,(hb.block _ (Array.getElem?_eq_some_iff.1 hc).1).trans hc⟩
 inj:=h.inj
 et:=(hb.cell (World.block_lt_of_cell? w _ h.et)).trans h.et
def GFree(p:Nat→Addr)(g:Nat):Prop:=(∀n,n∈senNums→n≠g∧(p n).block≠g)∧7≠g
theorem Globs.free {w:World}{p:Nat→Addr}(h:Globs w p){g:Nat}(hg:w.heap.size≤g):GFree p g:=
 ⟨fun n hn=>⟨by have:=World.block_lt_of_cell? w _ (h.cell n hn);simp at this;omega,by obtain⟨c,t,hc⟩:=h.blk n hn;have:=(Array.getElem?_eq_some_iff.1 hc).1;omega⟩,
  by have:=World.block_lt_of_cell? w _ h.et;simp at this;omega⟩
theorem cell_grown{w w':World}{a:Addr}{v:Value}{row:Option Nat}(h:w.cell? a=some v)(hg:w.grownBy w' row)(hn:some a.block≠row):w'.cell? a=some v:=
 (World.cell?_of_block (hg.block _ (World.block_lt_of_cell? w _ h) hn)).trans h
theorem blk_grown{w w':World}{b:Nat}{o:Obj}{row:Option Nat}(h:w.heap[b]? =some o)(hg:w.grownBy w' row)(hn:some b≠row):w'.heap[b]? =some o:=
 (hg.block _ (Array.getElem?_eq_some_iff.1 h).1 hn).trans h
theorem Globs.grown {w w':World}{p:Nat→Addr}(h:Globs w p){g:Nat}(hf:GFree p g)(hg:w.grownBy w' (some g)):Globs w' p where
 cell:=fun n hn=>cell_grown (h.cell n hn) hg (by have:=(hf.1 n hn).1;simpa using this)
 blk:=fun n hn=>by
  obtain⟨c,t,hc⟩:=h.blk n hn
  exact⟨c,t,blk_grown hc hg (by have:=(hf.1 n hn).2;simpa using this)⟩
 inj:=h.inj
 et:=cell_grown h.et hg (by have:=hf.2;simpa using this)
theorem grown_refl(w:World)(row:Option Nat):w.grownBy w row:=World.grownBy.refl w row
theorem below_drew(w:World):Below w.heap.size w w.drew:=(Below.refl _ _).drew
theorem below_new(w:World)(o:Obj):Below w.heap.size w (w.alloc o):=(Below.refl _ _).alloc (Nat.le_refl _) _
theorem below_new_drew(w:World)(o:Obj):Below w.heap.size w (w.alloc o).drew:=((Below.refl _ _).alloc (Nat.le_refl _) _).drew
theorem cell_new(w:World)(cs:Array Value)(t:TypeId)(fr:Nat×Nat)(j:Nat){v:Value}(h:cs[j]? =some v):(w.alloc (.cells cs t fr)).cell? ⟨w.heap.size,j,none⟩=some v:=by
 have hh:(w.alloc (.cells cs t fr)).heap[w.heap.size]? =some (.cells cs t fr):=by show(w.heap.push _)[w.heap.size]? =_;simp
 simp only[World.cell?,hh];simpa using h
theorem cell_below{w w':World}{a:Addr}{v:Value}(h:w.cell? a=some v)(hb:Below w.heap.size w w'):w'.cell? a=some v:=
 (hb.cell (World.block_lt_of_cell? w _ h)).trans h
theorem blk_below{w w':World}{b:Nat}{o:Obj}(h:w.heap[b]? =some o)(hb:Below w.heap.size w w'):w'.heap[b]? =some o:=
 (hb.block _ (Array.getElem?_eq_some_iff.1 h).1).trans h
theorem frz{w:World}{g:Nat}{cs:Array Value}{t:TypeId}(h:w.heap[g]? =some (.cells cs t (0,0)))(j:Nat):w.frozen? ⟨g,j,none⟩=false:=by
 simp only[World.frozen?,h]
 simp
theorem cel{w:World}{g:Nat}{cs:Array Value}{t:TypeId}{fr:Nat×Nat}(h:w.heap[g]? =some (.cells cs t fr))(j:Nat){v:Value}(hv:cs[j]? =some v):w.cell? ⟨g,j,none⟩=some v:=by
 simp only[World.cell?,h]
 simpa using hv
theorem set_blk{w:World}{g:Nat}{cs:Array Value}{t:TypeId}{fr:Nat×Nat}(h:w.heap[g]? =some (.cells cs t fr))(j:Nat)(v:Value):(w.setCell ⟨g,j,none⟩ v).heap[g]? =some (.cells (cs.setIfInBounds j v) t fr):=by
 simp only[World.setCell,Array.getElem?_modify,h]
 simp
theorem set_grown(w:World)(g j:Nat)(v:Value):w.grownBy (w.setCell ⟨g,j,none⟩ v) (some g):=
 ⟨rfl,rfl,rfl,by simp[World.setCell],fun i _ hr=>Below.heap_setCell w ⟨g,j,none⟩ v i (by simpa using hr)⟩
theorem grown_trans{w w1 w2:World}{row:Option Nat}(h:w.grownBy w1 row)(k:w1.grownBy w2 row):w.grownBy w2 row:=
 ⟨k.os.trans h.os,k.tape.trans h.tape,k.output.trans h.output,Nat.le_trans h.size k.size,fun i hi hr=>(k.block i (Nat.lt_of_lt_of_le hi h.size) hr).trans (h.block i hi hr)⟩
theorem grown_of_below{w w1:World}(h:Below w.heap.size w w1)(row:Option Nat):w.grownBy w1 row:=⟨h.os,h.tape,h.output,h.size,fun i hi _=>h.block i hi⟩
theorem below_drewN(w:World)(n:Nat):Below w.heap.size w (w.drewN n):=⟨rfl,rfl,rfl,Nat.le_refl _,fun _ _=>rfl⟩
end Go.Proofs.YtknelogmocedeaaGreatDoor
namespace Go.Proofs.YtknelogmocedeaaGreatDoor
open Go.RowKit
set_option linter.unusedVariables false
structure Upd(S:Nat→Prop)(w w':World):Prop where
 os:w'.os=w.os
 tape:w'.tape=w.tape
 output:w'.output=w.output
 size:w.heap.size≤w'.heap.size
 block:∀k,k < w.heap.size→¬S k→w'.heap[k]? =w.heap[k]?
theorem Upd.refl (S:Nat→Prop)(w:World):Upd S w w:=⟨rfl,rfl,rfl,Nat.le_refl _,fun _ _ _=>rfl⟩
theorem Upd.trans {S:Nat→Prop}{a b c:World}(h:Upd S a b)(k:Upd S b c):Upd S a c:=
 ⟨k.os.trans h.os,k.tape.trans h.tape,k.output.trans h.output,Nat.le_trans h.size k.size,fun i hi hs=>(k.block i (Nat.lt_of_lt_of_le hi h.size) hs).trans (h.block i hi hs)⟩
theorem Upd.mono {S S':Nat→Prop}{a b:World}(h:Upd S a b)(hs:∀k,S k→S' k):Upd S' a b:=⟨h.os,h.tape,h.output,h.size,fun i hi hn=>h.block i hi (fun e=>hn (hs i e))⟩
theorem Upd.of_grown {S:Nat→Prop}{a b:World}{f:Nat}(h:a.grownBy b (some f))(hf:S f):Upd S a b:=⟨h.os,h.tape,h.output,h.size,fun i hi hn=>h.block i hi (fun e=>hn (by cases e;exact hf))⟩
theorem Upd.of_below {S:Nat→Prop}{a b:World}(h:Below a.heap.size a b):Upd S a b:=⟨h.os,h.tape,h.output,h.size,fun i hi _=>h.block i hi⟩
theorem Upd.cell {S:Nat→Prop}{w w':World}(h:Upd S w w'){a:Addr}{v:Value}(hc:w.cell? a=some v)(hn:¬S a.block):w'.cell? a=some v:=
 (World.cell?_of_block (h.block _ (World.block_lt_of_cell? w _ hc) hn)).trans hc
theorem Upd.blk {S:Nat→Prop}{w w':World}(h:Upd S w w'){b:Nat}{o:Obj}(hc:w.heap[b]? =some o)(hn:¬S b):w'.heap[b]? =some o:=
 (h.block _ (Array.getElem?_eq_some_iff.1 hc).1 hn).trans hc
def GFreeS(p:Nat→Addr)(S:Nat→Prop):Prop:=(∀n,n∈senNums→¬S n∧¬S (p n).block)∧¬S 7
theorem Globs.upd {w w':World}{p:Nat→Addr}(h:Globs w p){S:Nat→Prop}(hf:GFreeS p S)(hg:Upd S w w'):Globs w' p where
 cell:=fun n hn=>hg.cell (h.cell n hn) (hf.1 n hn).1
 blk:=fun n hn=>by
  obtain⟨c,t,hc⟩:=h.blk n hn
  exact⟨c,t,hg.blk hc (hf.1 n hn).2⟩
 inj:=h.inj
 et:=hg.cell h.et hf.2
theorem putObj_upd(w:World)(l:Nat)(o:Obj):Upd (fun k=>k=l) w (w.putObj l o):=
 ⟨rfl,rfl,rfl,by rw[World.putObj_size];exact Nat.le_refl _,fun k _ hn=>World.putObj_heap_other hn⟩
theorem Upd.to_below {w a b:World}{S:Nat→Prop}(h:Below w.heap.size w a)(u:Upd S a b)(hS:∀k,S k→w.heap.size≤k):Below w.heap.size w b:=
 ⟨u.os.trans h.os,u.tape.trans h.tape,u.output.trans h.output,Nat.le_trans h.size u.size,fun i hi=>(u.block i (Nat.lt_of_lt_of_le hi h.size) (fun e=>by have:=hS i e;omega)).trans (h.block i hi)⟩
end Go.Proofs.YtknelogmocedeaaGreatDoor
namespace Go.Proofs.YtknelogmocedeaaGreatDoor
open Go.RowKit
set_option linter.unusedVariables false
inductive V where
 | int (k:IntKind) (n:Int)
 | bool (b:Bool)
 | str (s:ByteArray)
 | agg (l:List V)
 | sl (xs:List (List V))
 | nils
 | nili
 | ifc (t:TypeId) (x:V)
 | raw (v:Value)
 | mp (ks vs:List V)
def V.nz1:V→V
 | .nils=>.sl []
 | x=>x
def V.nz:V→V
 | .nils=>.sl []
 | .agg l=>.agg (l.map V.nz1)
 | x=>x
abbrev Lv:=Nat→Nat→Prop
def V.one:V→Bool
 | .agg _=>false
 | .raw v=>v.oneCell'
 | _=>true
def V.cells:V→List V
 | .agg l=>l
 | x=>[x]
mutual
def Rep(w:World)(L:Lv):V→Value→Prop
 | .int k n,v=>v=.int k n
 | .bool b,v=>v=.bool b
 | .str s,v=>v=.string s
 | .nils,v=>v=.slice none 0 0
 | .nili,v=>v=.nilIface
 | .raw u,v=>v=u
 | .mp ks vs,v=>∃m es ck,v=.map (some m)∧w.heap[m]? =some (.map es ck)∧((es.toList.map (·.born)).Nodup∧∀x∈es.toList,x.born < ck)∧RepW w L ks (es.toList.map (·.key))∧RepW w L vs (es.toList.map (·.val))
 | .ifc t x,v=>∃u,v=.iface t u∧Rep w L x u
 | .agg l,v=>∃cs,v=.agg cs∧RepL w L l cs.toList
 | .sl xs,v=>∃A c,v=.slice A xs.length c∧xs.length≤c∧(xs≠[]→∃b o e,A=some ⟨b,o,none⟩∧RepE w L b e o xs)
def RepW(w:World)(L:Lv):List V→List Value→Prop
 | [],cs=>cs=[]
 | x::xs,cs=>∃u us,cs=u::us∧Rep w L x u∧RepW w L xs us
def RepL(w:World)(L:Lv):List V→List Value→Prop
 | [],cs=>cs=[]
 | x::xs,cs=>∃u us,cs=u::us∧x.one=true∧Rep w L x u∧RepL w L xs us
def RepC(w:World)(L:Lv)(b:Nat):Nat→List V→Prop
 | _,[]=>True
 | o,x::xs=>(∃u,L b o∧w.cell? ⟨b,o,none⟩=some u∧x.one=true∧Rep w L x u)∧RepC w L b (o+1) xs
def RepE(w:World)(L:Lv)(b e:Nat):Nat→List (List V)→Prop
 | _,[]=>True
 | o,c::xs=>c.length=e∧RepC w L b o c∧RepE w L b e (o+e) xs
end
def isMapO:Obj→Bool
 | .map _ _=>true
 | _=>false
def MapsK(w w':World):Prop:=∀(k:Nat) (o:Obj),w.heap[k]? =some o→isMapO o=true→w'.heap[k]? =some o
theorem MapsK.refl (w:World):MapsK w w:=fun _ _ h _=>h
theorem MapsK.trans {a b c:World}(h:MapsK a b)(k:MapsK b c):MapsK a c:=fun i o h1 h2=>k i o (h i o h1 h2) h2
theorem MapsK.of_below {w w':World}(h:Below w.heap.size w w'):MapsK w w':=fun k o h1 _=>(h.block k (Array.getElem?_eq_some_iff.1 h1).1).trans h1
theorem MapsK.of_grown {w w':World}{f:Nat}(h:w.grownBy w' (some f))(hf:∀o,w.heap[f]? =some o→isMapO o=false):MapsK w w':=fun k o h1 h2=>by
 by_cases e:k=f
 ·subst e;rw[hf o h1] at h2;cases h2
 ·exact(h.block k (Array.getElem?_eq_some_iff.1 h1).1 (by simpa using e)).trans h1
structure Same(L:Lv)(w:World)(L':Lv)(w':World):Prop where
 c:∀b o u,L b o→w.cell? ⟨b,o,none⟩=some u→L' b o∧w'.cell? ⟨b,o,none⟩=some u
 m:MapsK w w'
mutual
theorem Rep.mono {w w':World}{L L':Lv}(h:Same L w L' w'):∀(x:V) (v:Value),Rep w L x v→Rep w' L' x v
 | .int _ _,_,r=>r
 | .bool _,_,r=>r
 | .str _,_,r=>r
 | .nils,_,r=>r
 | .nili,_,r=>r
 | .raw _,_,r=>r
 | .mp ks vs,_,⟨m,es,ck,e,hm,hb,r1,r2⟩=>⟨m,es,ck,e,h.m m _ hm rfl,hb,RepW.mono h ks _ r1,RepW.mono h vs _ r2⟩
 | .ifc _ x,_,⟨u,e,r⟩=>⟨u,e,Rep.mono h x u r⟩
 | .agg l,_,⟨cs,e,r⟩=>⟨cs,e,RepL.mono h l _ r⟩
 | .sl xs,_,⟨A,c,e,hl,hx⟩=>⟨A,c,e,hl,fun hn=>let ⟨b,o,k,ha,r⟩:=hx hn;⟨b,o,k,ha,RepE.mono h b k xs o r⟩⟩
theorem RepW.mono {w w':World}{L L':Lv}(h:Same L w L' w'):∀(l:List V) (cs:List Value),RepW w L l cs→RepW w' L' l cs
 | [],_,r=>r
 | x::xs,_,⟨u,us,e,r,rs⟩=>⟨u,us,e,Rep.mono h x u r,RepW.mono h xs us rs⟩
theorem RepL.mono {w w':World}{L L':Lv}(h:Same L w L' w'):∀(l:List V) (cs:List Value),RepL w L l cs→RepL w' L' l cs
 | [],_,r=>r
 | x::xs,_,⟨u,us,e,h1,r,rs⟩=>⟨u,us,e,h1,Rep.mono h x u r,RepL.mono h xs us rs⟩
theorem RepC.mono {w w':World}{L L':Lv}(h:Same L w L' w')(b:Nat):∀(l:List V) (o:Nat),RepC w L b o l→RepC w' L' b o l
 | [],_,_=>trivial
 | x::xs,o,⟨⟨u,hL,hc,h1,r⟩,rs⟩=>⟨⟨u,(h.c b o u hL hc).1,(h.c b o u hL hc).2,h1,Rep.mono h x u r⟩,RepC.mono h b xs (o+1) rs⟩
theorem RepE.mono {w w':World}{L L':Lv}(h:Same L w L' w')(b e:Nat):∀(xs:List (List V)) (o:Nat),RepE w L b e o xs→RepE w' L' b e o xs
 | [],_,_=>trivial
 | c::xs,o,⟨hl,rc,rs⟩=>⟨hl,RepC.mono h b c o rc,RepE.mono h b e xs (o+e) rs⟩
end
theorem Same.refl (L:Lv)(w:World):Same L w L w:=⟨fun _ _ _ h k=>⟨h,k⟩,.refl _⟩
theorem Same.trans {L L1 L2:Lv}{w w1 w2:World}(h:Same L w L1 w1)(k:Same L1 w1 L2 w2):Same L w L2 w2:=⟨fun b o u h1 h2=>let ⟨a,c⟩:=h.c b o u h1 h2;k.c b o u a c,h.m.trans k.m⟩
theorem Same.of_below {L:Lv}{w w':World}(h:Below w.heap.size w w'):Same L w L w':=⟨fun _ _ _ h1 h2=>⟨h1,cell_below h2 h⟩,.of_below h⟩
theorem RepW.length {w:World}{L:Lv}:∀{l:List V} {cs:List Value},RepW w L l cs→cs.length=l.length
 | [],_,r=>by obtain rfl:_=[]:=r;rfl
 | x::xs,_,⟨u,us,e,_,rs⟩=>by rw[e,List.length_cons,List.length_cons,rs.length]
theorem RepL.length {w:World}{L:Lv}:∀{l:List V} {cs:List Value},RepL w L l cs→cs.length=l.length
 | [],_,r=>by obtain rfl:_=[]:=r;rfl
 | x::xs,_,⟨u,us,e,_,_,rs⟩=>by rw[e,List.length_cons,List.length_cons,rs.length]
theorem RepL.get {w:World}{L:Lv}:∀{l:List V} {cs:List Value} {i:Nat} {x:V},RepL w L l cs→l[i]? =some x→∃u,cs[i]? =some u∧x.one=true∧Rep w L x u
 | [],_,_,_,_,h=>by simp at h
 | y::xs,_,0,x,⟨u,us,e,h1,r,_⟩,h=>by simp at h;subst h;exact⟨u,by rw[e];rfl,h1,r⟩
 | y::xs,_,i+1,x,⟨u,us,e,_,_,rs⟩,h=>by
  obtain⟨z,hz,h1,r⟩:=rs.get (i:=i) (by simpa using h)
  exact⟨z,by rw[e];simpa using hz,h1,r⟩
theorem RepL.append {w:World}{L:Lv}:∀{l m:List V} {cs ds:List Value},RepL w L l cs→RepL w L m ds→RepL w L (l++m) (cs++ds)
 | [],m,_,ds,h,k=>by rw[show _=[] from h];exact k
 | x::xs,m,_,ds,⟨u,us,e,h1,r,rs⟩,k=>⟨u,us++ds,by rw[e];rfl,h1,r,rs.append k⟩
theorem RepL.drop {w:World}{L:Lv}:∀{l:List V} {cs:List Value} (n:Nat),RepL w L l cs→RepL w L (l.drop n) (cs.drop n)
 | _,_,0,h=>by simpa using h
 | [],_,n+1,h=>by rw[show _=[] from h];simp[RepL]
 | x::xs,_,n+1,⟨u,us,e,_,_,rs⟩=>by rw[e];simpa using rs.drop n
theorem RepL.take {w:World}{L:Lv}:∀{l:List V} {cs:List Value} (n:Nat),RepL w L l cs→RepL w L (l.take n) (cs.take n)
 | _,_,0,_=>by simp[RepL]
 | [],_,n+1,h=>by rw[show _=[] from h];simp[RepL]
 | x::xs,_,n+1,⟨u,us,e,h1,r,rs⟩=>by rw[e];exact⟨u,us.take n,rfl,h1,r,rs.take n⟩
theorem RepC.get {w:World}{L:Lv}{b:Nat}:∀{l:List V} {o i:Nat} {x:V},RepC w L b o l→l[i]? =some x→∃u,L b (o+i)∧w.cell? ⟨b,o+i,none⟩=some u∧x.one=true∧Rep w L x u
 | [],_,_,_,_,h=>by simp at h
 | y::xs,o,0,x,⟨h0,_⟩,h=>by simp at h;subst h;exact h0
 | y::xs,o,i+1,x,⟨_,hs⟩,h=>by
  have:=hs.get (i:=i) (by simpa using h)
  rwa [show o+1+i=o+(i+1) by omega] at this
theorem RepC.of_get {w:World}{L:Lv}{b:Nat}:∀(l:List V) (o:Nat),(∀i x,l[i]? =some x→∃u,L b (o+i)∧w.cell? ⟨b,o+i,none⟩=some u∧x.one=true∧Rep w L x u)→RepC w L b o l
 | [],_,_=>trivial
 | y::xs,o,h=>⟨h 0 y rfl,RepC.of_get xs (o+1) fun i x hx=>by have:=h (i+1) x (by simpa using hx);rwa [show o+1+i=o+(i+1) by omega]⟩
theorem RepC.drop {w:World}{L:Lv}{b o:Nat}{l:List V}(h:RepC w L b o l)(n:Nat):RepC w L b (o+n) (l.drop n):=
 RepC.of_get _ _ fun i x hx=>by
  rw[List.getElem?_drop] at hx
  have:=h.get hx
  rwa [show o+n+i=o+(n+i) by omega]
theorem RepC.take {w:World}{L:Lv}{b o:Nat}{l:List V}(h:RepC w L b o l)(n:Nat):RepC w L b o (l.take n):=
 RepC.of_get _ _ fun i x hx=>by
  rw[List.getElem?_take] at hx
  split at hx
  ·exact h.get hx
  ·cases hx
theorem RepC.vals {w:World}{L:Lv}{b:Nat}:∀{l:List V} {o:Nat},RepC w L b o l→∃cs:List Value,cs.length=l.length∧RepL w L l cs∧∀i u,cs[i]? =some u→w.cell? ⟨b,o+i,none⟩=some u
 | [],_,_=>⟨[],rfl,rfl,fun i u h=>by simp at h⟩
 | x::xs,o,⟨⟨u,_,hc,h1,r⟩,rs⟩=>by
  obtain⟨cs,hl,hr,hg⟩:=rs.vals
  refine⟨u::cs,by simp[hl],⟨u,cs,rfl,h1,r,hr⟩,fun i z hz=>?_⟩
  cases i with
  | zero=>simp at hz;subst hz;exact hc
  | succ i=>have:=hg i z (by simpa using hz);rwa [show o+1+i=o+(i+1) by omega] at this
theorem RepE.get {w:World}{L:Lv}{b e:Nat}:∀{xs:List (List V)} {o i:Nat} {c:List V},RepE w L b e o xs→xs[i]? =some c→c.length=e∧RepC w L b (o+i*e) c
 | [],_,_,_,_,h=>by simp at h
 | y::xs,o,0,c,⟨hl,hc,_⟩,h=>by simp at h;subst h;exact⟨hl,by simpa using hc⟩
 | y::xs,o,i+1,c,⟨_,_,hs⟩,h=>by
  have:=hs.get (i:=i) (by simpa using h)
  rwa [show o+e+i*e=o+(i+1)*e by rw[Nat.add_mul];omega] at this
theorem RepE.of_get {w:World}{L:Lv}{b e:Nat}:∀(xs:List (List V)) (o:Nat),(∀i c,xs[i]? =some c→c.length=e∧RepC w L b (o+i*e) c)→RepE w L b e o xs
 | [],_,_=>trivial
 | y::xs,o,h=>⟨(h 0 y rfl).1,by simpa using (h 0 y rfl).2,RepE.of_get xs (o+e) fun i c hc=>by
   have:=h (i+1) c (by simpa using hc)
   rwa [show o+e+i*e=o+(i+1)*e by rw[Nat.add_mul];omega]⟩
theorem RepE.drop {w:World}{L:Lv}{b e o:Nat}{xs:List (List V)}(h:RepE w L b e o xs)(n:Nat):RepE w L b e (o+n*e) (xs.drop n):=
 RepE.of_get _ _ fun i c hc=>by
  rw[List.getElem?_drop] at hc
  have:=h.get hc
  rwa [show o+n*e+i*e=o+(n+i)*e by rw[Nat.add_mul];omega]
theorem RepE.take {w:World}{L:Lv}{b e o:Nat}{xs:List (List V)}(h:RepE w L b e o xs)(n:Nat):RepE w L b e o (xs.take n):=
 RepE.of_get _ _ fun i c hc=>by
  rw[List.getElem?_take] at hc
  split at hc
  ·exact h.get hc
  ·cases hc
theorem RepE.append {w:World}{L:Lv}{b e o:Nat}{xs ys:List (List V)}(h:RepE w L b e o xs)(k:RepE w L b e (o+xs.length*e) ys):RepE w L b e o (xs++ys):=
 RepE.of_get _ _ fun i c hc=>by
  by_cases hi:i < xs.length
  ·rw[List.getElem?_append_left hi] at hc;exact h.get hc
  ·rw[List.getElem?_append_right (by omega)] at hc
   have:=k.get hc
   rwa [show o+xs.length*e+(i - xs.length)*e=o+i*e by rw[Nat.add_assoc,←Nat.add_mul];congr 2;omega] at this
theorem RepE.vals {w:World}{L:Lv}{b e:Nat}:∀{xs:List (List V)} {o:Nat},RepE w L b e o xs→∃cs:List Value,cs.length=xs.length*e∧(∀i c,xs[i]? =some c→RepL w L c ((cs.drop (i*e)).take e))∧∀i u,cs[i]? =some u→w.cell? ⟨b,o+i,none⟩=some u
 | [],_,_=>⟨[],by simp,fun i c h=>by simp at h,fun i u h=>by simp at h⟩
 | x::xs,o,⟨hl,hc,hs⟩=>by
  obtain⟨c1,hl1,hr1,hg1⟩:=hc.vals
  obtain⟨c2,hl2,hr2,hg2⟩:=hs.vals
  refine⟨c1++c2,by rw[List.length_append,hl1,hl,hl2,List.length_cons,Nat.add_mul];omega,fun i c hi=>?_,fun i u hu=>?_⟩
  ·cases i with
   | zero=>
    simp at hi;subst hi
    simp only[Nat.zero_mul,List.drop_zero]
    rw[List.take_append_of_le_length (by omega),List.take_of_length_le (by omega)]
    exact hr1
   | succ i=>
    have:=hr2 i c (by simpa using hi)
    rw[List.drop_append]
    rw[List.drop_eq_nil_of_le (by rw[hl1,hl,Nat.add_mul];omega),List.nil_append,show(i+1)*e - c1.length=i*e by rw[hl1,hl,Nat.add_mul];omega]
    exact this
  ·by_cases hi:i < c1.length
   ·rw[List.getElem?_append_left hi] at hu;exact hg1 i u hu
   ·rw[List.getElem?_append_right (by omega)] at hu
    have:=hg2 _ u hu
    rwa [show o+e+(i - c1.length)=o+i by omega] at this
theorem RepL.one_vals {w:World}{L:Lv}:∀{l:List V} {cs:List Value},RepL w L l cs→∀u∈cs,u.oneCell'=true
 | [],_,r,u,hu=>by rw[show _=[] from r] at hu;cases hu
 | x::xs,_,⟨v,us,e,h1,r,rs⟩,u,hu=>by
  rw[e] at hu
  rcases List.mem_cons.1 hu with rfl | hu
  ·cases x with
   | agg l=>cases h1
   | int k n=>rw[show _=_ from r];rfl
   | bool k=>rw[show _=_ from r];rfl
   | str k=>rw[show _=_ from r];rfl
   | nils=>rw[show _=_ from r];rfl
   | nili=>rw[show _=_ from r];rfl
   | raw v=>rw[show _=_ from r];exact h1
   | mp ks vs=>obtain⟨_,_,_,rfl,_⟩:=r;rfl
   | ifc t x=>obtain⟨z,rfl,_⟩:=r;rfl
   | sl xs=>obtain⟨A,c,rfl,_⟩:=r;rfl
  ·exact rs.one_vals u hu
theorem Rep.one_val {w:World}{L:Lv}{x:V}{v:Value}(h1:x.one=true)(h:Rep w L x v):v.oneCell'=true:=
 RepL.one_vals (l:=[x]) (cs:=[v]) ⟨v,[],rfl,h1,h,rfl⟩ v (by simp)
theorem nz1_rep{w:World}{L:Lv}{x:V}{v:Value}(h:Rep w L x v):Rep w L x.nz1 v:=by
 cases x with
 | nils=>exact⟨none,0,h,Nat.le_refl _,fun e=>absurd rfl e⟩
 | _=>exact h
theorem nz1_one(x:V)(h:x.one=true):x.nz1.one=true:=by
 cases x with
 | nils=>rfl
 | _=>exact h
theorem nzL_rep{w:World}{L:Lv}:∀{l:List V} {cs:List Value},RepL w L l cs→RepL w L (l.map V.nz1) cs
 | [],_,h=>h
 | x::r,_,⟨u,us,e,h1,h2,h3⟩=>⟨u,us,e,nz1_one x h1,nz1_rep h2,nzL_rep h3⟩
theorem nz_rep{w:World}{L:Lv}{x:V}{v:Value}(h:Rep w L x v):Rep w L x.nz v:=by
 cases x with
 | nils=>exact⟨none,0,h,Nat.le_refl _,fun e=>absurd rfl e⟩
 | agg l=>obtain⟨cs,e,r⟩:=h;exact⟨cs,e,nzL_rep r⟩
 | _=>exact h
end Go.Proofs.YtknelogmocedeaaGreatDoor
