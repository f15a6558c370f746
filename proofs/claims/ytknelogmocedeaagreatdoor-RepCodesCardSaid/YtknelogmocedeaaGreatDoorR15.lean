/- Several texts, one behind the other. Contracts of functions of Go's library, as the kit's shelf proves them of whatever program, at this program's numbers. Each states its own conditions. Contracts of functions of Go's library, as the kit's shelf proves them of whatever program, at this program's numbers. Each states its own conditions. dn: which names are right, the same, under each other (isAva, Right, isSame, Same, IsUnder). Conditions: the names read as they lie. dn: a text's next sign (end). Conditions: at most 10^9 bytes; the sign is no backslash. Slices of bytes: that they read as lists; texts made of them, and they of texts. Conditions: the shape of memory that each theorem names. code, plain: digits. esc: whether a byte is one of some. Conditions: at most 1000. A reader of the package esc: a struct whose last field is a strings.Builder: its methods there. Conditions: the shape of memory that each theorem names. Contracts of functions of Go's library, as the kit's shelf proves them of whatever program, at this program's numbers. Each states its own conditions. utf.Right: is a text right? (its walk over signs). Conditions: the decoder's tables are laid; at most 10^9 bytes. esc: the signs that a value's text has, and whether a byte is one of them. No conditions. esc, code, plain: digits of two, values read. No program. Contracts of functions of Go's library, as the kit's shelf proves them of whatever program, at this program's numbers. Each states its own conditions. -/
import Derived.Shelf.SlicesQ.IndexFunc
import Derived.Test.YtknelogmocedeaaGreatDoorProg
import Derived.Test.YtknelogmocedeaaGreatDoorR14
import Derived.Deep.QuietTactic
import Derived.BigQuiet
import Derived.Test.YtknelogmocedeaaGreatDoorR11
import Derived.Test.YtknelogmocedeaaGreatDoorR01
import Derived.Laws.BytesArg
import Derived.Laws.BytesString
import Derived.Laws.IdiomStrings
import Derived.Lib.ConvBytes
import Derived.Deep.LoopGhost
import Derived.Deep.RegionHeld3
import Derived.Outline
import Derived.Test.YtknelogmocedeaaGreatDoorR08
import Derived.OwnWalkIn
import Derived.RangeFuncBox
import Derived.Shelf.Strings.Builder1
import Derived.RegionTactic
import Derived.ChangeAlike
import Derived.Shelf.Unicode.DecodeAny
import Derived.Shelf.Small.Utf8
import Derived.Lib.TrimU
import Derived.Lib.OthersKept
import Derived.Lib.RuneCountTail
import Derived.Shelf.Strings.Runes
import Derived.Shelf.Small.Strs
namespace Go.Proofs.YtknelogmocedeaaGreatDoor
open Go.Shelf
def Shelf.Ava_SlLaysH0n8_ren:Go.Shelf.Ren:=⟨fun | 6=>159 | 8=>128 | n=>n,fun | 0=>0 | 3=>3 | 4=>4 | 22=>159 | 23=>163 | 25=>225 | n=>n,fun | n=>n⟩
theorem Shelf.Ava_SlLaysH0n8:Go.Proofs.SlLaysH0.n8 Tryz.prog Shelf.Ava_SlLaysH0n8_ren:={
 mixed:=by kernel_rfl
 f6:=⟨Tryz.f159.name,by decide,Tryz.func159.trans (congrArg some (by kernel_rfl))⟩
 f8:=⟨Tryz.f128.name,by decide,Tryz.func128.trans (congrArg some (by kernel_rfl))⟩
 t0:=Tryz.underlying0
 a0:=Tryz.isAgg0
 z0:=Tryz.sizeOf0
 v0:=Tryz.zeroValue0
 t3:=Tryz.underlying3
 a3:=Tryz.isAgg3
 z3:=Tryz.sizeOf3
 v3:=Tryz.zeroValue3
 t4:=Tryz.underlying4
 a4:=Tryz.isAgg4
 z4:=Tryz.sizeOf4
 v4:=Tryz.zeroValue4
 t22:=Tryz.underlying159
 a22:=Tryz.isAgg159
 z22:=Tryz.sizeOf159
 v22:=Tryz.zeroValue159
 t25:=Tryz.underlying225
 a25:=Tryz.isAgg225
 z25:=Tryz.sizeOf225
 v25:=Tryz.zeroValue225}
open Go.RowKit Go.Lib in
theorem Shelf.Ava_slices_ContainsFunc {α:Type}[Inhabited α](k:Nat)(aE:∀w,(isAgg 163).run Tryz.prog w=.ok true w)(zE:∀w,(Go.sizeOf 163).run Tryz.prog w=.ok k w)(enc:α→List Value)(hk:∀x,(enc x).length=k)(p:α→Bool)(g:Nat)(lb:Array Value)(eg:∀args w,(callFunc g args).run Tryz.prog w=.ok (.enter g args) w)(b off n c:Nat)(zs:List α)(w:World)(hp:PredBelow Tryz.prog g lb (fun x=>.agg (enc x).toArray) p w)(hz:n≤zs.length)(hbig:n≤9223372036854775807)(hb:b < w.heap.size)(hc:∀j,j < zs.length→∀i v,(enc zs[j]!)[i]? =some v→w.cell? ⟨b,off+j*k+i,none⟩=some v):
  Calls Tryz.prog 128 #[.slice (some ⟨b,off,none⟩) n c,.func (.func g) #[] lb] w fun e w'=>e=.returned (.bool ((zs.take n).any p))∧Below w.heap.size w w':=AnyQ.slices_ContainsFunc Shelf.Ava_SlLaysH0n8 k aE zE enc hk p g lb eg b off n c zs w hp hz hbig hb hc
end Go.Proofs.YtknelogmocedeaaGreatDoor
namespace Go.Proofs.YtknelogmocedeaaGreatDoor
open Go.Shelf
def Shelf.Rdn_SlLaysH0n8_ren:Go.Shelf.Ren:=⟨fun | 6=>160 | 8=>131 | n=>n,fun | 0=>0 | 3=>3 | 4=>4 | 22=>36 | 23=>161 | 25=>226 | n=>n,fun | n=>n⟩
theorem Shelf.Rdn_SlLaysH0n8:Go.Proofs.SlLaysH0.n8 Tryz.prog Shelf.Rdn_SlLaysH0n8_ren:={
 mixed:=by kernel_rfl
 f6:=⟨Tryz.f160.name,by decide,Tryz.func160.trans (congrArg some (by kernel_rfl))⟩
 f8:=⟨Tryz.f131.name,by decide,Tryz.func131.trans (congrArg some (by kernel_rfl))⟩
 t0:=Tryz.underlying0
 a0:=Tryz.isAgg0
 z0:=Tryz.sizeOf0
 v0:=Tryz.zeroValue0
 t3:=Tryz.underlying3
 a3:=Tryz.isAgg3
 z3:=Tryz.sizeOf3
 v3:=Tryz.zeroValue3
 t4:=Tryz.underlying4
 a4:=Tryz.isAgg4
 z4:=Tryz.sizeOf4
 v4:=Tryz.zeroValue4
 t22:=Tryz.underlying36
 a22:=Tryz.isAgg36
 z22:=Tryz.sizeOf36
 v22:=Tryz.zeroValue36
 t25:=Tryz.underlying226
 a25:=Tryz.isAgg226
 z25:=Tryz.sizeOf226
 v25:=Tryz.zeroValue226}
open Go.RowKit Go.Lib in
theorem Shelf.Rdn_slices_ContainsFunc {α:Type}[Inhabited α](k:Nat)(aE:∀w,(isAgg 161).run Tryz.prog w=.ok true w)(zE:∀w,(Go.sizeOf 161).run Tryz.prog w=.ok k w)(enc:α→List Value)(hk:∀x,(enc x).length=k)(p:α→Bool)(g:Nat)(lb:Array Value)(eg:∀args w,(callFunc g args).run Tryz.prog w=.ok (.enter g args) w)(b off n c:Nat)(zs:List α)(w:World)(hp:PredBelow Tryz.prog g lb (fun x=>.agg (enc x).toArray) p w)(hz:n≤zs.length)(hbig:n≤9223372036854775807)(hb:b < w.heap.size)(hc:∀j,j < zs.length→∀i v,(enc zs[j]!)[i]? =some v→w.cell? ⟨b,off+j*k+i,none⟩=some v):
  Calls Tryz.prog 131 #[.slice (some ⟨b,off,none⟩) n c,.func (.func g) #[] lb] w fun e w'=>e=.returned (.bool ((zs.take n).any p))∧Below w.heap.size w w':=AnyQ.slices_ContainsFunc Shelf.Rdn_SlLaysH0n8 k aE zE enc hk p g lb eg b off n c zs w hp hz hbig hb hc
end Go.Proofs.YtknelogmocedeaaGreatDoor
namespace Go.Proofs.YtknelogmocedeaaGreatDoor.Dn
open Go.RowKit Go.Shelf Go.Lib
set_option linter.unusedVariables false
abbrev Ava:=ByteArray×ByteArray
abbrev Rdn:=List Ava
abbrev Name:=List Rdn
def VAva:View Ava:=VCat VStr VStr
def VRdn:View Rdn:=VSlice 2 VAva
def VName:View Name:=VSlice 1 VRdn
theorem VAva.ok:VAva.Ok 2:=VCat.ok VStr.ok VStr.ok
theorem VRdn.ok:VRdn.Ok 1:=VSlice.ok VAva.ok
theorem VName.ok:VName.Ok 1:=VSlice.ok VRdn.ok
theorem VAva.cells {w:World}{av:Nat→Prop}{ws:List Value}{a:Ava}(h:VAva w av ws a):ws=[.string a.1,.string a.2]:=by
 obtain⟨v1,v2,rfl,h1,h2⟩:=h
 have e1:v1=[.string a.1]:=h1
 have e2:v2=[.string a.2]:=h2
 rw[e1,e2];rfl
theorem VAva.mk (w:World)(av:Nat→Prop)(a:Ava):VAva w av [.string a.1,.string a.2] a:=⟨[.string a.1],[.string a.2],rfl,rfl,rfl⟩
def avaB(a:Ava):Bool:=typeB a.1.data.toList&&decide (a.2.size≤60)
def rdnB(r:Rdn):Bool:=decide (1≤r.length)&&(decide (r.length≤3)&&r.all avaB)
def rightB(d:Name):Bool:=decide (d.length≤8)&&d.all rdnB
theorem ava_calls(a:Ava)(w:World)(p:Nat→Addr)(hE:Env w p):Calls Tryz.prog 130 #[.agg #[.string a.1,.string a.2]] w fun e w'=>e=.returned (.bool (avaB a))∧Below w.heap.size w w':=by
 obtain⟨t,v⟩:=a
 dsimp only
 have HB0:=Aside.mk (below_new w (.cells #[.string t,.string v] 163))
 go_enter Tryz.func130,Tryz.ntmps130
 go_wp2_with fail
 refine(type_calls t _ p (hE.below HB0.out)).mono ?_
 rintro e w1 ⟨rfl,hb⟩
 have c1:w1.cell? ⟨w.heap.size,1,none⟩=some (.string v):=cell_below (cell_new w _ _ _ 1 rfl) hb
 have HB1:=Aside.mk (below_then HB0.out hb)
 clear hb
 cases ht:typeB t.data.toList with
 | false=>
  have HT:=Aside.mk ht
  clear ht
  go_wp2
  go_ret
  exact⟨by rw[avaB,HT.out];rfl,HB1.out⟩
 | true=>
  have HT:=Aside.mk ht
  clear ht
  go_wp2
  go_ret
  exact⟨by rw[avaB,HT.out];simp;omega,HB1.out⟩
theorem notAva(a:Ava)(w:World)(p:Nat→Addr)(hE:Env w p):Calls Tryz.prog 129 #[.agg #[.string a.1,.string a.2]] w fun e w'=>e=.returned (.bool (!avaB a))∧Below w.heap.size w w':=by
 have HB0:=Aside.mk (below_new w (.cells #[.string a.1,.string a.2] 163))
 go_enter Tryz.func129,Tryz.ntmps129
 go_wp2_with fail
 refine(ava_calls a _ p (hE.below HB0.out)).mono ?_
 rintro e w1 ⟨rfl,hb⟩
 have HB1:=Aside.mk (below_then HB0.out hb)
 clear hb
 go_wp2
 go_ret
 exact⟨rfl,HB1.out⟩
theorem some_ava(v:Value)(r:Rdn)(w:World)(p:Nat→Addr)(hE:Env w p)(hv:VRdn w (fun _=>True) [v] r)(hr:r.length≤1000000000):
  Calls Tryz.prog 128 #[v,.func (.func 129) #[] #[]] w fun e w'=>e=.returned (.bool (r.any fun a=> !avaB a))∧Below w.heap.size w w':=by
 obtain⟨A,c,rfl,hl,hx⟩:=VSlice.open hv
 by_cases hn:r=[]
 ·subst hn
  go_enter Tryz.func128,Tryz.ntmps128
  go_wp2
  refine wp_loop_rounds 1 ?_
  rw[rounds_succ]
  go_wp2
  go_ret
  exact⟨rfl,Below.refl _ _⟩
 ·obtain⟨b,o,rfl,_,hb,hc⟩:=hx hn
  have h:=Shelf.Ava_slices_ContainsFunc 2 Tryz.isAgg163 Tryz.sizeOf163 (fun a:Ava=>[.string a.1,.string a.2]) (fun _=>rfl) (fun a=> !avaB a) 129 #[] (enters_of Tryz.func129 (by kernel_rfl) rfl) b o r.length c r w
   (fun W x hbw=>(notAva x W p (hE.below hbw)).mono fun e w' h=>⟨h.1,hbw.trans (h.2.mono hbw.size)⟩) (Nat.le_refl _) (by omega) hb (fun j hj i v hv=>by
    obtain⟨ws,h1,h2⟩:=hc j r[j] (List.getElem?_eq_getElem hj)
    rw[h1.cells] at h2
    rw[getElem!_pos r j hj] at hv
    rw[Nat.add_assoc]
    exact h2 i v hv)
  rw[List.take_length] at h
  exact h
theorem notRdn(v:Value)(r:Rdn)(w:World)(p:Nat→Addr)(hE:Env w p)(hv:VRdn w (fun _=>True) [v] r):Calls Tryz.prog 127 #[.agg #[v]] w fun e w'=>e=.returned (.bool (!rdnB r))∧Below w.heap.size w w':=by
 have hV2:=Aside.mk (VRdn.ok.below hv (below_new w (.cells #[v] 161)))
 obtain⟨A,c,rfl,hl,hx⟩:=VSlice.open hv
 clear hx hv
 have HB0:=Aside.mk (below_new w (.cells #[.slice A r.length c] 161))
 rcases(by omega:(r.length < 1∧(r.length:Int) < 1)∨(3 < r.length∧(3:Int) < (r.length:Int)∧(1:Int)≤(r.length:Int))∨(1≤r.length∧r.length≤3∧(r.length:Int)≤3∧(1:Int)≤(r.length:Int))) with⟨h1,h2⟩ | ⟨h1,h2,h3⟩ | ⟨h1,h2,h3,h4⟩
 ·have HT:=Aside.mk (show rdnB r=false by unfold rdnB;rw[decide_eq_false (by omega)];rfl)
  clear h1
  go_enter Tryz.func127,Tryz.ntmps127
  go_wp2_with fail
  go_ret
  exact⟨by rw[HT.out];rfl,HB0.out⟩
 ·have HT:=Aside.mk (show rdnB r=false by unfold rdnB;rw[decide_eq_false (p:=r.length≤3) (by omega),Bool.false_and,Bool.and_false])
  clear h1
  go_enter Tryz.func127,Tryz.ntmps127
  go_wp2_with fail
  go_ret
  exact⟨by rw[HT.out];rfl,HB0.out⟩
 ·have HT:=Aside.mk (show rdnB r=r.all avaB by unfold rdnB;rw[decide_eq_true h1,decide_eq_true h2];rfl)
  have HA:=Aside.mk (show(r.any fun a=> !avaB a)= !(r.all avaB) by rw[List.not_all_eq_any_not])
  have hr:r.length≤1000000000:=by omega
  clear h1 h2
  go_enter Tryz.func127,Tryz.ntmps127
  go_wp2_with fail
  refine(some_ava _ r _ p (hE.below HB0.out) hV2.out hr).mono ?_
  rintro e w1 ⟨rfl,hb⟩
  have HB1:=Aside.mk (below_then HB0.out hb)
  clear hb
  go_wp2
  go_ret
  exact⟨by rw[HT.out,←HA.out];rfl,HB1.out⟩
theorem VRdn.cells {w:World}{av:Nat→Prop}{ws:List Value}{r:Rdn}(h:VRdn w av ws r):∃A n c,ws=[.slice A n c]:=by
 obtain⟨A,c,e,_⟩:=h
 exact⟨_,_,_,e⟩
theorem some_rdn(v:Value)(d:Name)(w:World)(p:Nat→Addr)(hE:Env w p)(hv:VName w (fun _=>True) [v] d)(hr:d.length≤1000000000):
  Calls Tryz.prog 131 #[v,.func (.func 127) #[] #[]] w fun e w'=>e=.returned (.bool (d.any fun a=> !rdnB a))∧Below w.heap.size w w':=by
 obtain⟨A,c,rfl,hl,hx⟩:=VSlice.open hv
 by_cases hn:d=[]
 ·subst hn
  go_enter Tryz.func131,Tryz.ntmps131
  go_wp2
  refine wp_loop_rounds 1 ?_
  rw[rounds_succ]
  go_wp2
  go_ret
  exact⟨rfl,Below.refl _ _⟩
 ·obtain⟨b,o,rfl,_,hb,hc⟩:=hx hn
  have hc':∀j:Fin d.length,∃v,VRdn w (fun _=>True) [v] d[j]∧w.cell? ⟨b,o+j.1,none⟩=some v:=fun j=>by
   obtain⟨ws,h1,h2⟩:=hc j d[j] (List.getElem?_eq_getElem j.2)
   obtain⟨A,n,c,rfl⟩:=h1.cells
   exact⟨_,h1,by have:=h2 0 _ rfl;simpa using this⟩
  let zs:List {x:Value×Rdn // VRdn w (fun _=>True) [x.1] x.2}:=List.ofFn fun j=>⟨((hc' j).choose,d[j]),(hc' j).choose_spec.1⟩
  have hzl:zs.length=d.length:=by simp[zs]
  have hpos:0 < d.length:=List.length_pos_iff.2 hn
  have hinh:Inhabited {x:Value×Rdn // VRdn w (fun _=>True) [x.1] x.2}:=⟨zs[0]'(by omega)⟩
  have h:=Shelf.Rdn_slices_ContainsFunc 1 Tryz.isAgg161 Tryz.sizeOf161 (fun a:{x:Value×Rdn // VRdn w (fun _=>True) [x.1] x.2}=>[a.1.1]) (fun _=>rfl) (fun a=> !rdnB a.1.2) 127 #[] (enters_of Tryz.func127 (by kernel_rfl) rfl) b o d.length c zs w
   (fun W x hbw=>(notRdn x.1.1 x.1.2 W p (hE.below hbw) (VRdn.ok.below x.2 hbw)).mono fun e w' h=>⟨h.1,hbw.trans (h.2.mono hbw.size)⟩) (by omega) (by omega) hb (fun j hj i v hv=>by
    rw[getElem!_pos zs j hj] at hv
    have hjd:j < d.length:=by omega
    have hi:i=0:=by
     have:=(List.getElem?_eq_some_iff.1 hv).1
     simpa using this
    subst hi
    have h2:=(hc' ⟨j,hjd⟩).choose_spec.2
    have:zs[j]=⟨((hc' ⟨j,hjd⟩).choose,d[j]),(hc' ⟨j,hjd⟩).choose_spec.1⟩:=by simp[zs]
    rw[this] at hv
    cases hv
    simpa using h2)
  have hmap:zs.map (·.1.2)=d:=by
   refine List.ext_getElem (by simp[hzl]) fun j h1 h2=>?_
   simp[zs]
  have hany:(zs.take d.length).any (fun a=> !rdnB a.1.2)=d.any fun a=> !rdnB a:=by
   rw[List.take_of_length_le (by omega)]
   conv=>rhs;rw[←hmap]
   rw[List.any_map];rfl
  rw[hany] at h
  exact h
theorem right_calls(v:Value)(d:Name)(w:World)(p:Nat→Addr)(hE:Env w p)(hv:VName w (fun _=>True) [v] d):Calls Tryz.prog 89 #[v] w fun e w'=>e=.returned (.bool (rightB d))∧Below w.heap.size w w':=by
 have hV:=Aside.mk hv
 obtain⟨A,c,rfl,hl,hx⟩:=VSlice.open hv
 clear hx hv
 by_cases h8:d.length≤8
 ·have h8i:(d.length:Int)≤8:=by omega
  have HT:=Aside.mk (show rightB d=d.all rdnB by unfold rightB;rw[decide_eq_true h8];rfl)
  have HA:=Aside.mk (show(d.any fun a=> !rdnB a)= !(d.all rdnB) by rw[List.not_all_eq_any_not])
  go_enter Tryz.func89,Tryz.ntmps89
  go_wp2_with fail
  refine(some_rdn _ d _ p hE hV.out (by omega)).mono ?_
  rintro e w1 ⟨rfl,hb⟩
  have HB1:=Aside.mk hb
  clear hb
  go_wp2
  go_ret
  exact⟨by rw[HT.out,HA.out];simp,HB1.out⟩
 ·have h8i:(8:Int) < (d.length:Int):=by omega
  have HT:=Aside.mk (show rightB d=false by unfold rightB;rw[decide_eq_false h8];rfl)
  clear h8
  go_enter Tryz.func89,Tryz.ntmps89
  go_wp2_with fail
  go_ret
  exact⟨by rw[HT.out];rfl,Below.refl _ _⟩
end Go.Proofs.YtknelogmocedeaaGreatDoor.Dn
namespace Go.Proofs.YtknelogmocedeaaGreatDoor.Dn
open Go.RowKit
set_option linter.unusedVariables false
def endL(c:UInt8):List UInt8→Nat
 | []=>0
 | [b]=>if b=92 then 1 else if b=c then 0 else 1
 | b::x::t=>if b=92 then 2+endL c t else if b=c then 0 else 1+endL c (x::t)
theorem endL_esc(c x:UInt8)(t:List UInt8):endL c (92::x::t)=2+endL c t:=by rw[endL,if_pos rfl]
theorem endL_esc_end(c:UInt8):endL c [92]=1:=by rw[endL,if_pos rfl]
theorem endL_hit(c:UInt8)(hc:c≠92)(t:List UInt8):endL c (c::t)=0:=by
 cases t with
 | nil=>rw[endL,if_neg hc,if_pos rfl]
 | cons x t=>rw[endL,if_neg hc,if_pos rfl]
theorem endL_other(c b:UInt8)(h1:b≠92)(h2:b≠c)(t:List UInt8):endL c (b::t)=1+endL c t:=by
 cases t with
 | nil=>simp[endL,h1,h2]
 | cons x t=>rw[endL,if_neg h1,if_neg h2]
theorem endL_le(c:UInt8):∀l:List UInt8,endL c l≤l.length
 | []=>Nat.le_refl _
 | [b]=>by rw[endL];split <;> (try split) <;> simp
 | b::x::t=>by
  have h1:=endL_le c t
  have h2:=endL_le c (x::t)
  rw[endL]
  simp only[List.length_cons] at h2 ⊢
  split
  ·omega
  ·split <;> omega
set_option maxHeartbeats 4000000 in
theorem end_calls(s:ByteArray)(hs:s.size≤1000000000)(a:Nat)(ha:a≤s.size)(c:UInt8)(hc:c≠92)(w:World):
  Calls Tryz.prog 124 #[.agg #[.string s],.int .i64 a,.int .u8 c.toNat] w fun e w'=>e=.returned (.int .i64 ((a+endL c (s.data.toList.drop a):Nat):Int))∧Below w.heap.size w w':=by
 obtain⟨N,hN⟩:∃N,a+endL c (s.data.toList.drop a)=N:=⟨_,rfl⟩
 rw[hN]
 have HN:=Aside.mk hN
 have HSL:=Aside.mk (Txt.size_list s)
 obtain⟨W1,hW1⟩:∃W1,w.alloc (.cells #[.string s] 155)=W1:=⟨_,rfl⟩
 have c0:W1.cell? ⟨w.heap.size,0,none⟩=some (.string s):=by rw[←hW1];exact cell_new w _ _ _ 0 rfl
 have HB:=Aside.mk (show Below w.heap.size w W1 by rw[←hW1];exact below_new _ _)
 clear hN
 go_enter Tryz.func124,Tryz.ntmps124
 go_wp2_with fail
 clear hW1
 go_loopg [7] (s.size+1) (fun gk v7 wr=>∃(i:Nat),v7=.int .i64 i∧wr=W1∧Aside (s.size+1≤i+gk∧a≤i∧((i≤s.size∧i+endL c (s.data.toList.drop i)=N)∨(i=s.size+1∧N=s.size))))
 case atStart=>exact⟨a,rfl,rfl,⟨by omega,Nat.le_refl _,.inl ⟨ha,HN.out⟩⟩⟩
 case round=>
  obtain⟨i,rfl,rfl,HI⟩:=hrel
  obtain⟨i1,i2,i3⟩:=HI.out
  clear HI
  by_cases hi:i < s.size
  ·obtain⟨m,rfl⟩:∃m,gk=m+1:=⟨gk - 1,by omega⟩
   have hii:(i:Int) < (s.size:Int):=by omega
   have hi0:(0:Int)≤(i:Int):=by omega
   have hin:i+endL c (s.data.toList.drop i)=N:=by
    rcases i3 with⟨_,h⟩ | ⟨h,_⟩
    ·exact h
    ·omega
   clear i3
   rw[Txt.drop_cons s i hi] at hin
   have hidx:∀W:World,(Instr.index 9 (.string s) (.int .i64 (i:Int))).run Tryz.prog W=.ok (.int .u8 s[i].toNat) W:=by
    intro W;go_simp
   generalize s[i]=b at hin hidx
   by_cases h92:b=92
   ·subst h92
    have HX:=Aside.mk (show(i+1+1≤s.size∧(i+1+1)+endL c (s.data.toList.drop (i+1+1))=N)∨(i+1+1=s.size+1∧N=s.size) by
     by_cases hl:i+1 < s.size
     ·rw[Txt.drop_cons s (i+1) hl,endL_esc] at hin
      exact .inl ⟨by omega,by omega⟩
     ·rw[List.drop_eq_nil_of_le (by rw[HSL.out];omega),endL_esc_end] at hin
      exact .inr ⟨by omega,by omega⟩)
    clear hin
    go_wp2
    go_roundg m
    case measure=>omega
    case rel=>exact⟨i+1+1,by go_num,rfl,⟨by omega,by omega,HX.out⟩⟩
   ·have hb92:((b.toNat:Int)==92)=false:=by
     rw[beq_eq_false_iff_ne]
     intro h;apply h92
     rw[←UInt8.toNat_inj]
     have:(92:UInt8).toNat=92:=rfl
     omega
    by_cases hbc:b=c
    ·subst hbc
     have HX:=Aside.mk (show i=N by rw[endL_hit _ h92] at hin;exact hin)
     clear hin h92
     go_wp2
     go_ret
     exact⟨by rw[←HX.out];rfl,HB.out⟩
    ·have hbc2:((b.toNat:Int)==(c.toNat:Int))=false:=by
      rw[beq_eq_false_iff_ne]
      intro h;apply hbc
      rw[←UInt8.toNat_inj]
      omega
     have HX:=Aside.mk (show(i+1)+endL c (s.data.toList.drop (i+1))=N by rw[endL_other c b h92 hbc] at hin;omega)
     clear hin h92 hbc
     go_wp2
     go_roundg m
     case measure=>omega
     case rel=>exact⟨i+1,by go_num,rfl,⟨by omega,by omega,.inl ⟨by omega,HX.out⟩⟩⟩
  ·have hi2:(s.size:Int)≤(i:Int):=by omega
   have HX:=Aside.mk (show s.size=N by
    rcases i3 with⟨h1,h2⟩ | ⟨h1,h2⟩
    ·rw[List.drop_eq_nil_of_le (by rw[HSL.out];omega),endL] at h2
     omega
    ·exact h2.symm)
   clear hi i3
   go_wp2
   go_ret
   exact⟨by rw[←HX.out];rfl,HB.out⟩
end Go.Proofs.YtknelogmocedeaaGreatDoor.Dn
namespace Go.Proofs.YtknelogmocedeaaGreatDoor
open Go.RowKit
set_option linter.unusedVariables false
def VByte:View UInt8:=fun _ _ vs x=>vs=[.int .u8 x.toNat]
theorem VByte.ok:View.Ok 1 VByte:=⟨fun h _=>h,fun h _ _=>h,fun h=>h,fun h=>by rw[h];rfl,fun h u hu=>by rw[h] at hu;obtain rfl:=List.mem_singleton.1 hu;rfl⟩
theorem bytesTy:RowTy Tryz.prog 44 5 1:=rowTy_of Tryz.underlying44 (by kernel_rfl) (by decide)
theorem strOf'(l:List UInt8):strOfNums (l.map fun x=>(x.toNat:Int))=⟨l.toArray⟩:=by
 unfold strOfNums
 congr 1
 rw[List.map_map]
 congr 1
 refine(List.map_congr_left (g:=id) fun x _=>?_).trans (List.map_id l)
 show UInt8.ofNat ((x.toNat:Int).toNat)=x
 rw[Int.toNat_natCast];exact UInt8.ofNat_toNat
theorem bytes_text{w:World}{av:Nat→Prop}{v:Value}{l:List UInt8}(h:VSlice 1 VByte w av [v] l):(convert 44 9 v).run Tryz.prog w=.ok (.string ⟨l.toArray⟩) w:=by
 obtain⟨A,c,rfl,_,hx⟩:=h.open
 by_cases hl:l=[]
 ·subst hl
  cases A with
  | none=>exact run_convert_bytes_nil w 44 5 Tryz.underlying44 Tryz.underlying5 0 c 9 Tryz.underlying9
  | some ad=>
   obtain⟨b,o,s⟩:=ad
   rw[run_convert_bytes_string w 44 9 5 _ _ _ Tryz.underlying44 Tryz.underlying5 Tryz.underlying9]
   rfl
 ·obtain⟨b,o,rfl,_,_,hc⟩:=hx hl
  rw[←strOf']
  refine run_convert_bytes_arg w 44 5 Tryz.underlying44 Tryz.underlying5 b o l.length c _ (by simp) (fun i hi=>?_) 9 Tryz.underlying9
  obtain⟨ws,h1,h2⟩:=hc i l[i] (List.getElem?_eq_getElem hi)
  have e1:ws=[.int .u8 l[i].toNat]:=h1
  subst e1
  have h3:=h2 0 _ rfl
  simp only[Nat.mul_one,Nat.add_zero] at h3
  rw[h3]
  simp[List.getD_eq_getElem?_getD,List.getElem?_eq_getElem hi]
theorem lit_bytes(W:World)(av:Nat→Prop)(l:List UInt8)(hav:av W.heap.size)(n c:Nat)(hn:n=l.length)(hc:l.length≤c):VSlice 1 VByte (W.alloc (.cells (l.map fun x=>Value.int .u8 x.toNat).toArray 5)) av [.slice (some ⟨W.heap.size,0,none⟩) n c] l:=
 VSlice.lit (wss:=l.map fun x=>[.int .u8 x.toNat]) VByte.ok (by simp) (flat_one _ l) (fun j x ws hx hw=>by rw[List.getElem?_map,hx] at hw;cases hw;rfl) hav n c hn hc
end Go.Proofs.YtknelogmocedeaaGreatDoor
namespace Go.Proofs.YtknelogmocedeaaGreatDoor.Code
open Go.RowKit
set_option linter.unusedVariables false
end Go.Proofs.YtknelogmocedeaaGreatDoor.Code
namespace Go.Proofs.YtknelogmocedeaaGreatDoor.Esc
open Go.RowKit
set_option linter.unusedVariables false
theorem one_calls(b:UInt8)(v:Value)(l:List UInt8)(w:World)(hv:VSlice 1 VByte w (fun _=>True) [v] l)(hl:l.length≤100000000):Calls Tryz.prog 207 #[.int .u8 b.toNat,v] w fun e w'=>e=.returned (.bool (l.contains b))∧w=w':=by
 obtain⟨A,c,rfl,_,hx⟩:=hv.open
 have HX:=Aside.mk hx
 clear hx hv
 go_enter Tryz.func207,Tryz.ntmps207
 go_wp2_with fail
 go_loopg [9] l.length (fun gk v9 wr=>∃(k:Nat),v9=.int .i64 k∧wr=w∧Aside (k+gk=l.length∧(l.take k).contains b=false))
 case atStart=>exact⟨0,rfl,rfl,⟨by omega,by simp⟩⟩
 case round=>
  obtain⟨k,rfl,rfl,HI⟩:=hrel
  obtain⟨i1,i2⟩:=HI.out
  have I2:=Aside.mk i2
  clear HI i2
  by_cases hk:k < l.length
  ·obtain⟨m,rfl⟩:∃m,gk=m+1:=⟨gk - 1,by omega⟩
   have hki:(k:Int) < (l.length:Int):=by omega
   obtain⟨bb,o,rfl,_,hbl,hcell⟩:=HX.out (by rintro rfl;simp at hk)
   obtain⟨ws,e1,e2⟩:=hcell k l[k] (List.getElem?_eq_getElem hk)
   have e1':ws=[.int .u8 l[k].toNat]:=e1
   subst e1'
   have ck:wr.cell? ⟨bb,o+k,none⟩=some (.int .u8 l[k].toNat):=by
    have:=e2 0 _ rfl
    simpa using this
   have HT:=Aside.mk (show(l.take (k+1)).contains b=(b==l[k]) by rw[List.take_succ_eq_append_getElem hk,List.contains_append,I2.out];simp only[List.contains_cons,List.contains_nil,Bool.or_false,Bool.false_or])
   have HM:=Aside.mk (List.getElem_mem hk)
   generalize l[k]=x at ck HT HM
   clear e1 e2 hcell
   by_cases hbx:b=x
   ·have q:((b.toNat:Int)==(x.toNat:Int))=true:=by rw[hbx];simp
    have HQ:=Aside.mk (show l.contains b=true by rw[List.contains_iff_mem,hbx];exact HM.out)
    clear hbx
    go_wp2
    go_ret
    exact⟨by rw[HQ.out];rfl,rfl⟩
   ·have q:((b.toNat:Int)==(x.toNat:Int))=false:=by
     simp only[beq_eq_false_iff_ne]
     intro e
     exact hbx (UInt8.toNat_inj.1 (by omega))
    have HQ:=Aside.mk (show(b==x)=false by simp[hbx])
    clear hbx
    go_wp2
    go_roundg m
    case measure=>omega
    case rel=>exact⟨k+1,by go_num,rfl,⟨by omega,by rw[HT.out,HQ.out]⟩⟩
  ·have hk2:(l.length:Int)≤(k:Int):=by omega
   have HE:=Aside.mk (show l.contains b=false by have:=I2.out;rwa [List.take_of_length_le (by omega)] at this)
   clear hk
   go_wp2
   go_ret
   exact⟨by rw[HE.out];rfl,rfl⟩
end Go.Proofs.YtknelogmocedeaaGreatDoor.Esc
namespace Go.Proofs.YtknelogmocedeaaGreatDoor.Esc
open Go.RowKit
set_option linter.unusedVariables false
def RD(w:World)(B:Nat)(s:ByteArray)(at_:Nat)(nm:Bool)(l:List UInt8):Prop:=
 ∃p v,w.heap[B]? =some (.cells #[.string s,.int .i64 at_,.bool nm,p,v] 311 (0,0))∧(p=.pointer none∨p=.pointer (some ⟨B,3,none⟩))∧w.ownsRow (B+1) 5 1 v l.length (Lib.byteCells l)∧(l=[]→v=.slice none 0 0)
theorem RD.below {w w':World}{B:Nat}{s:ByteArray}{at_:Nat}{nm:Bool}{l:List UInt8}(h:RD w B s at_ nm l)(hb:Below w.heap.size w w'):RD w' B s at_ nm l:=by
 obtain⟨p,v,h1,h2,h3,h4⟩:=h
 exact⟨p,v,blk_below h1 hb,h2,ownsRow_upd h3 (Upd.of_below (S:=fun _=>False) hb) (fun _ _ h=>h),h4⟩
theorem bldInfo:(Tryz.prog.info? 302).map (·.size)=some 2:=by kernel_rfl
theorem bldLies:liesAt Tryz.prog Tryz.prog.depth 311 (5 / Tryz.prog.cellsOf 311) 3 302 1=true:=by kernel_rfl
set_option maxHeartbeats 100000000 in
set_option maxRecDepth 100000 in
theorem check_used(B:Nat)(w:World)(h0:w.cell? ⟨B,3,none⟩=some (.pointer (some ⟨B,3,none⟩))):
  Calls Tryz.prog 192 #[.pointer (some ⟨B,3,none⟩)] w fun e w'=>e=.returned (.tuple #[])∧w=w':=by
 obtain⟨j,hj,_⟩:=Option.map_eq_some_iff.1 bldInfo
 have hne:=Lib.run_neq_ptr_same (P:=Tryz.prog) w ⟨B,3,none⟩ Tryz.underlying300 hj
 go_enter Tryz.func192,Tryz.ntmps192
 go_wp2
 go_end0
 exact⟨rfl,rfl⟩
set_option maxHeartbeats 100000000 in
set_option maxRecDepth 100000 in
theorem check_fresh(B:Nat)(w:World)(h0:w.cell? ⟨B,3,none⟩=some (.pointer none))(hsh:w.shape? B=some (311,5))(hfz:w.frozen? ⟨B,3,none⟩=false):
  Calls Tryz.prog 192 #[.pointer (some ⟨B,3,none⟩)] w fun e w'=>e=.returned (.tuple #[])∧w.setCell ⟨B,3,none⟩ (.pointer (some ⟨B,3,none⟩))=w':=by
 obtain⟨j,hj,hjs⟩:=Option.map_eq_some_iff.1 bldInfo
 have h1:=Lib.run_to_unsafe (P:=Tryz.prog) w ⟨B,3,none⟩ Tryz.underlying300 Tryz.underlying206 hj (by rw[hjs];decide) hsh (show 3 < 5 by decide)
 have h2:=Lib.run_from_unsafe (P:=Tryz.prog) w ⟨B,3,none⟩ Tryz.underlying206 Tryz.underlying300 hj hsh bldLies
 have h3:= @run_callFunc_extern Tryz.prog 201 _ Extern.AbiNoEscape.same Tryz.func201 (by kernel_rfl) (by kernel_rfl) (by kernel_rfl) (by kernel_rfl)
 have h4:=fun x=>Lib.run_noEscape (P:=Tryz.prog) w x
 go_enter Tryz.func192,Tryz.ntmps192
 go_wp2
 go_end0
 exact⟨rfl,rfl⟩
def RU(w:World)(B:Nat)(s:ByteArray)(at_:Nat)(nm:Bool)(v:Value)(l:List UInt8):Prop:=
 w.heap[B]? =some (.cells #[.string s,.int .i64 at_,.bool nm,.pointer (some ⟨B,3,none⟩),v] 311 (0,0))∧w.ownsRow (B+1) 5 1 v l.length (Lib.byteCells l)
theorem check_calls{w:World}{B:Nat}{s:ByteArray}{at_:Nat}{nm:Bool}{l:List UInt8}(h:RD w B s at_ nm l):
  Calls Tryz.prog 192 #[.pointer (some ⟨B,3,none⟩)] w fun e w'=>e=.returned (.tuple #[])∧(∃v,RU w' B s at_ nm v l)∧Below B w w'∧w.heap.size≤w'.heap.size:=by
 obtain⟨p,v,h1,h2,h3,_⟩:=h
 rcases h2 with rfl | rfl
 ·refine(check_fresh B w (cel h1 3 rfl) (by simp[World.shape?,h1]) (frz h1 3)).mono ?_
  rintro e w' ⟨rfl,rfl⟩
  exact⟨rfl,⟨v,set_blk h1 3 _,ownsRow_upd h3 (Upd.of_grown (S:=fun k=>k=B) (set_grown w B 3 _) rfl) (fun k hk=>by have:=(h3.lt k hk).1;omega)⟩,(Below.refl B w).setCell (p:=⟨B,3,none⟩) (Nat.le_refl _) _,by simp[World.setCell]⟩
 ·refine(check_used B w (cel h1 3 rfl)).mono ?_
  rintro e w' ⟨rfl,rfl⟩
  exact⟨rfl,⟨v,h1,h3⟩,Below.refl _ _,Nat.le_refl _⟩
theorem ownsRow_slice{W:World}{base:Nat}{e:TypeId}{size:Nat}{v:Value}{k:Nat}{xs:List Value}(h:W.ownsRow base e size v k xs):∃A c,v=.slice A k c:=by
 rcases h.2 with⟨rfl,rfl⟩ | ⟨g,cap,_,rfl,_⟩
 ·exact⟨none,0,rfl⟩
 ·exact⟨_,cap,rfl⟩
theorem bytesInfo:(Tryz.prog.info? 5).map (fun i=>(i.zero,i.size,i.bytes))=some (some (.int .u8 0),1,1):=by kernel_rfl
theorem put_row{w6:World}{B:Nat}{s:ByteArray}{at_:Nat}{nm:Bool}{v v':Value}{l:List UInt8}(hb:w6.heap[B]? =some (.cells #[.string s,.int .i64 at_,.bool nm,.pointer (some ⟨B,3,none⟩),v] 311 (0,0)))(h:w6.ownsRow (B+1) 5 1 v' l.length (Lib.byteCells l))(hne:l≠[]):RD (w6.setCell ⟨B,4,none⟩ v') B s at_ nm l:=
 ⟨_,_,set_blk hb 4 v',.inr rfl,ownsRow_upd h (Upd.of_grown (S:=fun k=>k=B) (set_grown w6 B 4 v') rfl) (fun k hk=>by have:=(h.lt k hk).1;omega),fun h=>absurd h hne⟩
set_option maxHeartbeats 2000000 in
set_option maxRecDepth 100000 in
theorem wbyte{w:World}{B:Nat}{s:ByteArray}{at_:Nat}{nm:Bool}{l:List UInt8}(h:RD w B s at_ nm l)(hB:B < w.heap.size)(hl:l.length≤1000000000)(b:UInt8):
  Calls Tryz.prog 200 #[.pointer (some ⟨B,3,none⟩),.int .u8 b.toNat] w fun e w'=>e=.returned .nilIface∧RD w' B s at_ nm (l++[b])∧Below B w w':=by
 obtain⟨i0,hi,hz0,hz1,hz2⟩:=info_parts bytesInfo
 go_enter Tryz.func200,Tryz.ntmps200
 go_wp2_with fail
 refine(check_calls h).mono ?_
 rintro e w1 ⟨rfl,⟨v,h1,h2⟩,hb,hsz⟩
 have c3:w1.cell? ⟨B,3,none⟩=some (.pointer (some ⟨B,3,none⟩)):=cel h1 3 rfl
 have c4:w1.cell? ⟨B,4,none⟩=some v:=cel h1 4 rfl
 have hB1:B < w1.heap.size:=Nat.lt_of_lt_of_le hB hsz
 have H1:=Aside.mk h1
 have H2:=Aside.mk h2
 have HB:=Aside.mk hb
 clear h1 h2 hb h
 go_wp2_with (at_builtin;refine wpList_append_own _ rfl _ _ 44 rfl (B+1) 5 i0 (.int .u8 0) 1 1 Tryz.underlying44 hi hz0 hz1 hz2 rfl (by decide) _ _ _ rfl (H2.out.alloc _) ⟨w1.heap.size,0,none⟩ 1 1 [.int .u8 b.toNat] rfl rfl (cell_one_new _ _ _) (by simp[Value.oneCell']) (by unfold maxLen;omega) (by omega) (by simp;omega) ?_)
 intro v' w6 hown hgrow _
 obtain⟨g',cap',rfl⟩:=ownsRow_succ hown
 have hne:v.ownBlock≠some B:=fun e=>by have:=(H2.out.lt B e).1;omega
 have hb6:=blk_grown (blk_below H1.out (below_new w1 (.cells #[.int .u8 b.toNat] 5))) hgrow (fun e=>hne e.symm)
 have d4:w6.cell? ⟨B,4,none⟩=some v:=cel hb6 4 rfl
 have f4:=frz hb6 4
 have HO:=Aside.mk hown
 have HG:=Aside.mk hgrow
 have HB6:=Aside.mk hb6
 clear hown hgrow hb6 c3 c4 hi
 go_wp2
 go_ret
 refine⟨rfl,put_row (l:=l++[b]) HB6.out (by have:=HO.out;simpa [Lib.byteCells] using this) (by simp),?_⟩
 exact((HB.out.trans ((below_new w1 _).mono (by omega))).grown HG.out (by simp;omega) (fun k hk=>by have:=(H2.out.lt k hk).1;omega)).setCell (p:=⟨B,4,none⟩) (Nat.le_refl _) _
set_option maxHeartbeats 2000000 in
set_option maxRecDepth 100000 in
theorem wstring{w:World}{B:Nat}{s:ByteArray}{at_:Nat}{nm:Bool}{l:List UInt8}(h:RD w B s at_ nm l)(hB:B < w.heap.size)(t:List UInt8)(ht:t≠[])(hl:l.length+t.length≤1000000000):
  Calls Tryz.prog 180 #[.pointer (some ⟨B,3,none⟩),.string ⟨t.toArray⟩] w fun e w'=>(∃v,e=.returned v)∧RD w' B s at_ nm (l++t)∧Below B w w':=by
 obtain⟨i0,hi,hz0,hz1,hz2⟩:=info_parts bytesInfo
 go_enter Tryz.func180,Tryz.ntmps180
 go_wp2_with fail
 refine(check_calls h).mono ?_
 rintro e w1 ⟨rfl,⟨v,h1,h2⟩,hb,hsz⟩
 have c3:w1.cell? ⟨B,3,none⟩=some (.pointer (some ⟨B,3,none⟩)):=cel h1 3 rfl
 have c4:w1.cell? ⟨B,4,none⟩=some v:=cel h1 4 rfl
 have hB1:B < w1.heap.size:=Nat.lt_of_lt_of_le hB hsz
 have HSZ:=Aside.mk (Txt.size_mk t)
 have HTN:=Aside.mk ht
 clear ht
 have H1:=Aside.mk h1
 have H2:=Aside.mk h2
 have HB:=Aside.mk hb
 clear h1 h2 hb h
 go_wp2_with (at_builtin;refine Lib.wpList_append_own_string _ rfl _ _ 44 9 rfl (B+1) 5 i0 Tryz.underlying44 Tryz.underlying9 hi hz0 hz1 hz2 _ _ _ rfl H2.out ⟨t.toArray⟩ rfl (by rw[HSZ.out];unfold maxLen;omega) (by rw[HSZ.out];omega) (by omega) ?_)
 intro v' w6 hown hgrow _
 obtain⟨A',cap',rfl⟩:=ownsRow_slice hown
 have hne:v.ownBlock≠some B:=fun e=>by have:=(H2.out.lt B e).1;omega
 have hb6:=blk_grown H1.out hgrow (fun e=>hne e.symm)
 have d4:w6.cell? ⟨B,4,none⟩=some v:=cel hb6 4 rfl
 have f4:=frz hb6 4
 have HO:=Aside.mk hown
 have HG:=Aside.mk hgrow
 have HB6:=Aside.mk hb6
 clear hown hgrow hb6 c3 c4 hi
 go_wp2
 go_ret2
 refine⟨⟨_,rfl⟩,put_row (l:=l++t) HB6.out (by have:=HO.out;rw[show Lib.strCells ⟨t.toArray⟩=Lib.byteCells t from rfl,←Lib.byteCells_append] at this;rwa [List.length_append]) (by simp[HTN.out]),?_⟩
 exact(HB.out.grown HG.out (by omega) (fun k hk=>by have:=(H2.out.lt k hk).1;omega)).setCell (p:=⟨B,4,none⟩) (Nat.le_refl _) _
set_option maxHeartbeats 2000000 in
set_option maxRecDepth 100000 in
theorem text_of{w:World}{B:Nat}{s:ByteArray}{at_:Nat}{nm:Bool}{l:List UInt8}(h:RD w B s at_ nm l):
  Calls Tryz.prog 181 #[.pointer (some ⟨B,3,none⟩)] w fun e w'=>e=.returned (.string ⟨l.toArray⟩)∧Below B w w':=by
 obtain⟨p,v,h1,_,h3,h4⟩:=h
 have hcell:∀W:World,W.heap=w.heap→W.cell? ⟨B,4,none⟩=some v:=fun W e=>by
  have:=cel h1 4 (v:=v) rfl
  simpa [World.cell?,e] using this
 by_cases h0:l=[]
 ·obtain rfl:=h4 h0
  subst h0
  have hUN:=fun W q=>Lib.run_unsafeString_none (P:=Tryz.prog) W 320 3 9 q
  have c1:w.drew.cell? ⟨B,4,none⟩=some (.slice none 0 0):=hcell _ rfl
  have hSD:∀W:World,(Builtin.unsafeSliceData_ #[44] 320 #[.slice none 0 0]).run Tryz.prog W=.ok (.pointer none) W:=fun W=>rfl
  clear hcell h1 h3 h4
  go_enter Tryz.func181,Tryz.ntmps181
  go_wp2
  go_region
  all_goals (go_wp2;go_ret;exact⟨rfl,Below.drew (Below.refl B w)⟩)
 ·have hl0:l.length≠0:=by simpa using h0
  obtain⟨g,cap,cur,rfl,hbg,hg,hnc,hcm,hcs,htake⟩:∃g cap cur,v=.slice (some ⟨g,0,none⟩) l.length cap∧B+1≤g∧w.heap[g]? =some (.cells cur 5 (0,0))∧l.length≤cap∧cap≤maxLen∧cur.size=cap*1∧cur.toList.take (l.length*1)=Lib.byteCells l:=by
   rcases h3.2 with⟨_,hz⟩ | ⟨g,cap,cur,hv,r⟩
   ·exact absurd hz hl0
   ·exact⟨g,cap,cur,hv,r⟩
  have c1:w.drew.cell? ⟨B,4,none⟩=some (.slice (some ⟨g,0,none⟩) l.length cap):=hcell _ rfl
  have hSD:(Builtin.unsafeSliceData_ #[44] 320 #[.slice (some ⟨g,0,none⟩) l.length cap]).run Tryz.prog w.drew=.ok (.pointer (some ⟨g,0,none⟩)) w.drew:=
   Lib.run_unsafeSliceData_row _ _ _ _ _ _ (by omega)
  have hUS:(Builtin.unsafeString_ #[320,3] 9 #[.pointer (some ⟨g,0,none⟩),.int .i64 l.length]).run Tryz.prog w.drew=.ok (.string ⟨l.toArray⟩) (w.drew.freeze ⟨g,0,none⟩ l.length):=by
   refine Lib.run_unsafeString_row w.drew 320 3 9 5 Tryz.underlying320 (by kernel_rfl) g cur.size (by have hg':w.drew.heap[g]? =some (.cells cur 5 (0,0)):=hg;simp[World.shape?,hg']) l h0 (by omega) (by unfold maxLen at hcm;omega) ?_
   intro j x hx
   have:=h3.cells (g:=g) rfl j (.int .u8 x.toNat) (by simp[Lib.byteCells,hx])
   exact this
  clear hcell h1 h3 h4 hg htake hcs hnc hcm
  go_enter Tryz.func181,Tryz.ntmps181
  go_wp2
  go_region
  all_goals (go_wp2;go_ret;exact⟨rfl,Lib.below_freeze (Below.drew (Below.refl B w)) (p:=⟨g,0,none⟩) (show B≤g by omega) _⟩)
end Go.Proofs.YtknelogmocedeaaGreatDoor.Esc
namespace Go.Proofs.YtknelogmocedeaaGreatDoor
open Go.Shelf
def Shelf.Laysn197_ren:Go.Shelf.Ren:=⟨fun | 197=>167 | 260=>188 | n=>n,fun | 0=>0 | 3=>3 | 4=>4 | 5=>5 | 9=>9 | 21=>21 | 46=>281 | 105=>284 | 119=>334 | 138=>336 | 139=>337 | n=>n,fun | 3=>15 | 4=>16 | n=>n⟩
theorem Shelf.Laysn197:Go.Proofs.Lays.n197 Tryz.prog Shelf.Laysn197_ren:={
 mixed:=by kernel_rfl
 f197:=Tryz.func167.trans (congrArg some (by kernel_rfl))
 f260:=Tryz.func188.trans (congrArg some (by kernel_rfl))
 t0:=Tryz.underlying0
 a0:=Tryz.isAgg0
 z0:=Tryz.sizeOf0
 v0:=Tryz.zeroValue0
 t3:=Tryz.underlying3
 a3:=Tryz.isAgg3
 z3:=Tryz.sizeOf3
 v3:=Tryz.zeroValue3
 t4:=Tryz.underlying4
 a4:=Tryz.isAgg4
 z4:=Tryz.sizeOf4
 v4:=Tryz.zeroValue4
 t5:=Tryz.underlying5
 a5:=Tryz.isAgg5
 z5:=Tryz.sizeOf5
 v5:=Tryz.zeroValue5
 t9:=Tryz.underlying9
 a9:=Tryz.isAgg9
 z9:=Tryz.sizeOf9
 v9:=Tryz.zeroValue9
 t21:=Tryz.underlying21
 a21:=Tryz.isAgg21
 z21:=Tryz.sizeOf21
 v21:=Tryz.zeroValue21
 t46:=Tryz.underlying281
 a46:=Tryz.isAgg281
 z46:=Tryz.sizeOf281
 v46:=Tryz.zeroValue281
 t105:=Tryz.underlying284
 a105:=Tryz.isAgg284
 z105:=Tryz.sizeOf284
 v105:=Tryz.zeroValue284
 t119:=Tryz.underlying334
 a119:=Tryz.isAgg334
 z119:=Tryz.sizeOf334
 t138:=Tryz.underlying336
 a138:=Tryz.isAgg336
 z138:=Tryz.sizeOf336
 v138:=Tryz.zeroValue336
 t139:=Tryz.underlying337
 a139:=Tryz.isAgg337
 z139:=Tryz.sizeOf337
 v139:=Tryz.zeroValue337
 g3:=by kernel_rfl
 g4:=by kernel_rfl}
open Go.RowKit Go.Lib in
theorem Shelf.utf8_DecodeRuneInString (s:ByteArray)(w:World)(hT:Lib.Utf8Tabs 15 16 w):
  Calls Tryz.prog 167 #[.string s] w fun e w'=>e=.returned (.tuple #[.int .i32 (Lib.decodeGo s).1,.int .i64 (Lib.decodeGo s).2])∧Below w.heap.size w w':=Any.utf8_DecodeRuneInString Shelf.Laysn197 s w hT
def Shelf.Laysn119_ren:Go.Shelf.Ren:=⟨fun | 119=>209 | n=>n,fun | 4=>4 | 21=>21 | n=>n,fun | n=>n⟩
theorem Shelf.Laysn119:Go.Proofs.Lays.n119 Tryz.prog Shelf.Laysn119_ren:={
 mixed:=by kernel_rfl
 f119:=Tryz.func209.trans (congrArg some (by kernel_rfl))
 t4:=Tryz.underlying4
 a4:=Tryz.isAgg4
 z4:=Tryz.sizeOf4
 v4:=Tryz.zeroValue4
 t21:=Tryz.underlying21
 a21:=Tryz.isAgg21
 z21:=Tryz.sizeOf21
 v21:=Tryz.zeroValue21}
theorem Shelf.utf8_ValidRune (r:Int)(w:World):
  Calls Tryz.prog 209 #[.int .i32 r] w fun e w'=>e=.returned (.bool (Lib.validRune r))∧w'=w:=Any.utf8_ValidRune Shelf.Laysn119 r w
end Go.Proofs.YtknelogmocedeaaGreatDoor
namespace Go.Proofs.YtknelogmocedeaaGreatDoor.Utf
open Go.RowKit Go.Lib
set_option linter.unusedVariables false
def utfR(s:ByteArray):Nat→Nat→Bool
 | 0,_=>true
 | f+1,pos=>if pos < s.size then(if(Utf8.decode s pos).1==65533&&(Utf8.decode s pos).2==1 then false else utfR s f (pos+(Utf8.decode s pos).2)) else true
def utfB(s:ByteArray):Bool:=utfR s s.size 0
theorem decode_tail(s:ByteArray)(pos:Nat)(h:pos < s.size):Lib.decodeGo (s.extract pos s.size)=Utf8.decode s pos:=by
 unfold Lib.decodeGo
 rw[if_neg (by rw[Lib.tail_size];omega),Lib.tail_decode,Nat.add_zero]
attribute [local go_sem] Oper.semAt_some
def Walked(J:World→Prop)(E:Addr)(s:ByteArray)(W:World):Prop:=
 (utfB s=true∧J W)∨(utfB s=false∧∃(n:Int) (W1:World),J W1∧W=W1.setCell E (.iface 318 (.agg #[.int .i64 n])))
set_option maxHeartbeats 4000000 in
theorem signs_iter{l0 Tx Ex K:Nat}{E:Addr}{s:ByteArray}(hs:s.size≤1000000000)(J:World→Prop)
  (hJt:∀W,J W→W.cell? ⟨Tx,0,none⟩=some (.string s)) (hJe:∀W,J W→W.cell? ⟨Ex,0,none⟩=some (.pointer (some E))) (hJE:∀W,J W→∃v,W.cell? E=some v) (hJf:∀W,J W→W.frozen? E=false)
  (hJu:∀W,J W→Lib.Utf8Tabs 15 16 W) (hJb:∀W W',J W→Below K W W'→J W') (hJs:∀W,J W→K≤W.heap.size)
  (hY:∀(k r:Int) W,J W→∃fn tmps assign body,(Instr.yield l0 #[.int .i64 k,.int .i32 r]).run Tryz.prog W=.ok (.round l0 fn tmps assign body) W∧RoundIn Fence.wide 0 Tryz.prog l0 fn tmps assign body W (fun e W'=>e=.returned (.bool true)∧J W'∧∀j,K≤j→W'.heap[j]? =W.heap[j]?))
  (W:World) (h0:J W) (hK:W.heap.size=K):
  Calls Tryz.prog 189 #[.func (.yield l0) #[] #[],.pointer (some ⟨Tx,0,none⟩),.pointer (some ⟨Ex,0,none⟩)] W fun e W'=>(∃v,e=.returned v)∧Walked J E s W':=by
 have c0:=hJt W h0
 subst hK
 go_enter Tryz.func189,Tryz.ntmps189
 go_wp2
 go_step3
 go_wp2
 go_step3
 go_wp2
 go_loopg [] s.size (fun gk wr=>Aside (∃pos:Nat,wr.heap[W.heap.size]? =some (.stringIter s pos)∧J wr∧s.size≤pos+gk∧utfR s gk pos=utfB s))
 case atStart=>exact⟨⟨0,World.iter_heap W s 0,hJb _ _ h0 (below_new _ _),by omega,rfl⟩⟩
 case round=>
  obtain⟨pos,hit,hj,hgk,hu⟩:=hrel.out
  clear hrel c0
  have HU:=Aside.mk hu
  have HJ:=Aside.mk hj
  clear hu hj
  by_cases hp:pos < s.size
  ·obtain⟨m,rfl⟩:∃m,gk=m+1:=⟨gk - 1,by omega⟩
   have hnx:∀ty,(Instr.next (.pointer (some ⟨W.heap.size,0,none⟩)) true ty).run Tryz.prog wr=_:=fun ty=>Lib.run_next_any_at wr W.heap.size s pos ty hit hp
   have HW1:=Aside.mk (Lib.width_pos s pos)
   have HD:=Aside.mk (decode_tail s pos hp)
   have HST:=Aside.mk (show utfB s=(if(Utf8.decode s pos).1==65533&&(Utf8.decode s pos).2==1 then false else utfR s m (pos+(Utf8.decode s pos).2)) by rw[←HU.out];simp[utfR,hp])
   generalize Utf8.decode s pos=d at hnx HW1 HD HST
   obtain⟨r,wd⟩:=d
   obtain⟨w2,hw2⟩:∃w2,wr.iterAt W.heap.size s (pos+wd)=w2:=⟨_,rfl⟩
   have hit2:w2.heap[W.heap.size]? =some (.stringIter s (pos+wd)):=by rw[←hw2];exact Lib.iterAt_heap wr W.heap.size s pos _ hit
   have hj2:J w2:=by rw[←hw2];exact hJb _ _ HJ.out (Lib.below_iterAt (Below.refl _ _) (k:=W.heap.size) (Nat.le_refl _) s _)
   have hpi:(0:Int)≤(pos:Int):=by omega
   have hpj:(pos:Int)≤(s.size:Int):=by omega
   rw[hw2] at hnx
   clear hw2 hit
   have HI2:=Aside.mk hit2
   have HJ2:=Aside.mk hj2
   have c0:=hJt _ hj2
   have HC:=Aside.mk (show Calls Tryz.prog 167 #[.string (s.extract pos s.size)] w2 fun e w'=>e=.returned (.tuple #[.int .i32 r,.int .i64 wd])∧Below w2.heap.size w2 w' by
    have:=Shelf.utf8_DecodeRuneInString (s.extract pos s.size) w2 (hJu _ hj2)
    rwa [HD.out] at this)
   clear hit2 hj2
   refine(wpIn_wide (n:=1)).1 ?_
   gi_wp2_with fail
   refine⟨trivial,callsIn_wide.2 (HC.out.mono ?_)⟩
   rintro e w3 ⟨rfl,hb⟩
   have hw2:W.heap.size < w2.heap.size:=(Array.getElem?_eq_some_iff.1 HI2.out).1
   have HI3:=Aside.mk (hb.block W.heap.size hw2 ▸ HI2.out)
   have HJ3:=Aside.mk (hJb _ _ HJ2.out (hb.mono (Nat.le_of_lt hw2)))
   clear hb c0
   by_cases hbad:r=65533∧wd=1
   ·obtain⟨rfl,rfl⟩:=hbad
    have HF:=Aside.mk (show utfB s=false by rw[HST.out];rfl)
    have c1:=hJe _ HJ3.out
    obtain⟨v0,c2⟩:=hJE _ HJ3.out
    have c3:=hJf _ HJ3.out
    clear hnx
    gi_wp2
    rw[Exit.noGoto_normal]
    go_end0
    exact⟨⟨_,rfl⟩,.inr ⟨HF.out,_,w3,HJ3.out,rfl⟩⟩
   ·have HT:=Aside.mk (show utfB s=utfR s m (pos+wd) by
     rw[HST.out,if_neg]
     simp only[Bool.and_eq_true,beq_iff_eq]
     exact hbad)
    obtain⟨fn,tm,asg,bo,hy,hR⟩:=hY pos r w3 HJ3.out
    have HRR:=Aside.mk hR
    clear hR hnx
    have hcases:((r:Int)==65533)=false∨(((r:Int)==65533)=true∧((wd:Int)==1)=false):=by
     by_cases h1:r=65533
     ·right
      have:wd≠1:=fun e=>hbad ⟨h1,e⟩
      constructor
      ·simp[h1]
      ·rw[beq_eq_false_iff_ne];omega
     ·left;rw[beq_eq_false_iff_ne];omega
    clear hbad
    rcases hcases with h1 | ⟨h1,h2⟩
    all_goals
     gi_wp2_with fail
     refine HRR.out.mono ?_
     rintro e w4 ⟨rfl,hj4,hk4⟩
     have HJ4:=Aside.mk hj4
     have HI4:=Aside.mk ((hk4 _ (Nat.le_refl _)).trans HI3.out)
     clear hj4 hk4 hy
     gi_wp2
     go_roundg m
    all_goals first
     | (case measure=>omega)
     | (case rel=>exact⟨pos+wd,HI4.out,HJ4.out,by have:=HW1.out;omega,HT.out.symm⟩)
     | skip
  ·have HE:=Aside.mk (show utfB s=true by
    rw[←HU.out]
    cases gk with
    | zero=>rfl
    | succ f=>simp[utfR,hp])
   have hnx:∀ty,(Instr.next (.pointer (some ⟨W.heap.size,0,none⟩)) true ty).run Tryz.prog wr=_:=fun ty=>Lib.run_next_end_at wr W.heap.size s pos ty hit hp
   clear hp
   go_wp2
   rw[Exit.noGoto_normal]
   go_end0
   exact⟨⟨_,rfl⟩,.inl ⟨HE.out,HJ.out⟩⟩
end Go.Proofs.YtknelogmocedeaaGreatDoor.Utf
namespace Go.Proofs.YtknelogmocedeaaGreatDoor.Esc
open Go.RowKit Go.Lib
set_option linter.unusedVariables false
def first2:List UInt8:=[32,35]
end Go.Proofs.YtknelogmocedeaaGreatDoor.Esc
namespace Go.Proofs.YtknelogmocedeaaGreatDoor.Code
open Go.RowKit
set_option linter.unusedVariables false
def hexVal(c:UInt8):Option Nat:=if 48≤c.toNat∧c.toNat≤57 then some (c.toNat - 48) else if 97≤c.toNat∧c.toNat≤102 then some (c.toNat - 87) else if 65≤c.toNat∧c.toNat≤70 then some (c.toNat - 55) else none
theorem hexVal_lt{c:UInt8}{n:Nat}(h:hexVal c=some n):n < 16∧c.toNat < 128:=by
 unfold hexVal at h
 split at h
 ·cases h;omega
 ·split at h
  ·cases h;omega
  ·split at h
   ·cases h;omega
   ·cases h
def unhex2:List UInt8→Option (List UInt8)
 | []=>some []
 | [a,b]=>match hexVal a,hexVal b with
  | some x,some y=>some [UInt8.ofNat (16*x+y)]
  | _,_=>none
 | _=>none
end Go.Proofs.YtknelogmocedeaaGreatDoor.Code
namespace Go.Proofs.YtknelogmocedeaaGreatDoor.Esc
open Go.RowKit
set_option linter.unusedVariables false
theorem extract_size(s:ByteArray)(i j:Nat)(hij:i≤j)(hj:j≤s.size):(s.extract i j).size=j - i:=by
 rw[ByteArray.size_extract];omega
def two(s:ByteArray)(at_:Nat):List UInt8:=(s.data.toList.drop at_).take 2
def digitAt(s:ByteArray)(at_:Nat):Option UInt8:=match Code.unhex2 (two s at_) with
 | some [z]=>some z
 | _=>none
theorem unhex2_cases(l:List UInt8):Code.unhex2 l=none∨Code.unhex2 l=some []∨∃z,Code.unhex2 l=some [z]:=by
 match l with
 | []=>exact .inr (.inl rfl)
 | [_]=>exact .inl rfl
 | [a,b]=>
  simp only[Code.unhex2]
  split
  ·exact .inr (.inr ⟨_,rfl⟩)
  ·exact .inl rfl
 | _::_::_::_=>exact .inl rfl
def signs10:List UInt8:=[32,35,61,34,43,44,59,60,62,92]
def signAt(nm:Bool)(s:ByteArray)(a:Nat):Option (UInt8×Nat):=
 if h:a < s.size then
  if nm&&signs10.contains s[a] then some (s[a],a+1) else(digitAt s a).map fun z=>(z,a+2)
 else(digitAt s a).map fun z=>(z,a+2)
def signs3:List UInt8:=[42,40,41]
def signs6:List UInt8:=[34,43,44,59,60,62]
def barB(nm:Bool)(n k:Nat)(b:UInt8):Bool:=if nm then(k==0&&first2.contains b)||(k+1==n&&b==32)||signs6.contains b else signs3.contains b
def readR(nm:Bool)(s:ByteArray):Nat→Nat→List UInt8→Option (List UInt8)
 | 0,_,l=>some l
 | f+1,k,l=>if h:k < s.size then
   (if s[k]==92 then(match signAt nm s (k+1) with
    | some (z,a)=>readR nm s f a (l++[z])
    | none=>none)
   else if barB nm s.size k s[k] then none else readR nm s f (k+1) (l++[s[k]]))
  else some l
def readL(nm:Bool)(s:ByteArray):Option (List UInt8):=if !(Utf.utfB s)||s.data.toList.contains 0 then none else readR nm s s.size 0 []
end Go.Proofs.YtknelogmocedeaaGreatDoor.Esc
namespace Go.Proofs.YtknelogmocedeaaGreatDoor
open Go.Shelf
def Shelf.Laysn152_ren:Go.Shelf.Ren:=⟨fun | 119=>209 | 137=>208 | 152=>204 | 217=>161 | 224=>163 | 225=>162 | 266=>186 | n=>n,fun | 0=>0 | 3=>3 | 4=>4 | 5=>5 | 9=>9 | 21=>21 | 46=>281 | n=>n,fun | n=>n⟩
theorem Shelf.Laysn152:Go.Proofs.Lays.n152 Tryz.prog Shelf.Laysn152_ren:={
 mixed:=by kernel_rfl
 f119:=Tryz.func209.trans (congrArg some (by kernel_rfl))
 f137:=Tryz.func208.trans (congrArg some (by kernel_rfl))
 f152:=Tryz.func204.trans (congrArg some (by kernel_rfl))
 f217:=Tryz.func161.trans (congrArg some (by kernel_rfl))
 f224:=Tryz.func163.trans (congrArg some (by kernel_rfl))
 f225:=Tryz.func162.trans (congrArg some (by kernel_rfl))
 f266:=Tryz.func186.trans (congrArg some (by kernel_rfl))
 t0:=Tryz.underlying0
 a0:=Tryz.isAgg0
 z0:=Tryz.sizeOf0
 v0:=Tryz.zeroValue0
 t3:=Tryz.underlying3
 a3:=Tryz.isAgg3
 z3:=Tryz.sizeOf3
 v3:=Tryz.zeroValue3
 t4:=Tryz.underlying4
 a4:=Tryz.isAgg4
 z4:=Tryz.sizeOf4
 v4:=Tryz.zeroValue4
 t5:=Tryz.underlying5
 a5:=Tryz.isAgg5
 z5:=Tryz.sizeOf5
 v5:=Tryz.zeroValue5
 t9:=Tryz.underlying9
 a9:=Tryz.isAgg9
 z9:=Tryz.sizeOf9
 v9:=Tryz.zeroValue9
 t21:=Tryz.underlying21
 a21:=Tryz.isAgg21
 z21:=Tryz.sizeOf21
 v21:=Tryz.zeroValue21
 t46:=Tryz.underlying281
 a46:=Tryz.isAgg281
 z46:=Tryz.sizeOf281
 v46:=Tryz.zeroValue281}
open Go.RowKit Go.Lib in
theorem Shelf.strings_IndexRune_ascii (s:ByteArray)(r:Int)(w:World)(h0:0≤r)(h1:r < 128):
  Calls Tryz.prog 204 #[.string s,.int .i32 r] w fun e w'=>e=.returned (.int .i64 (Lib.indexByte s.data.toList r.toNat.toUInt8))∧w'=w:=Any.strings_IndexRune_ascii Shelf.Laysn152 s r w h0 h1
def Shelf.Laysn151_ren:Go.Shelf.Ren:=⟨fun | 119=>209 | 137=>208 | 151=>197 | 152=>204 | 217=>161 | 224=>163 | 225=>162 | 266=>186 | n=>n,fun | 0=>0 | 3=>3 | 4=>4 | 5=>5 | 9=>9 | 21=>21 | 46=>281 | n=>n,fun | n=>n⟩
theorem Shelf.Laysn151:Go.Proofs.Lays.n151 Tryz.prog Shelf.Laysn151_ren:={
 mixed:=by kernel_rfl
 f119:=Tryz.func209.trans (congrArg some (by kernel_rfl))
 f137:=Tryz.func208.trans (congrArg some (by kernel_rfl))
 f151:=Tryz.func197.trans (congrArg some (by kernel_rfl))
 f152:=Tryz.func204.trans (congrArg some (by kernel_rfl))
 f217:=Tryz.func161.trans (congrArg some (by kernel_rfl))
 f224:=Tryz.func163.trans (congrArg some (by kernel_rfl))
 f225:=Tryz.func162.trans (congrArg some (by kernel_rfl))
 f266:=Tryz.func186.trans (congrArg some (by kernel_rfl))
 t0:=Tryz.underlying0
 a0:=Tryz.isAgg0
 z0:=Tryz.sizeOf0
 v0:=Tryz.zeroValue0
 t3:=Tryz.underlying3
 a3:=Tryz.isAgg3
 z3:=Tryz.sizeOf3
 v3:=Tryz.zeroValue3
 t4:=Tryz.underlying4
 a4:=Tryz.isAgg4
 z4:=Tryz.sizeOf4
 v4:=Tryz.zeroValue4
 t5:=Tryz.underlying5
 a5:=Tryz.isAgg5
 z5:=Tryz.sizeOf5
 v5:=Tryz.zeroValue5
 t9:=Tryz.underlying9
 a9:=Tryz.isAgg9
 z9:=Tryz.sizeOf9
 v9:=Tryz.zeroValue9
 t21:=Tryz.underlying21
 a21:=Tryz.isAgg21
 z21:=Tryz.sizeOf21
 v21:=Tryz.zeroValue21
 t46:=Tryz.underlying281
 a46:=Tryz.isAgg281
 z46:=Tryz.sizeOf281
 v46:=Tryz.zeroValue281}
open Go.RowKit Go.Lib in
theorem Shelf.strings_ContainsRune_ascii (s:ByteArray)(r:Int)(w:World)(h0:0≤r)(h1:r < 128):
  Calls Tryz.prog 197 #[.string s,.int .i32 r] w fun e w'=>e=.returned (.bool (decide (0≤Lib.indexByte s.data.toList r.toNat.toUInt8)))∧w'=w:=Any.strings_ContainsRune_ascii Shelf.Laysn151 s r w h0 h1
def Shelf.Laysn137_ren:Go.Shelf.Ren:=⟨fun | 137=>208 | 217=>161 | 266=>186 | n=>n,fun | 3=>3 | 5=>5 | 9=>9 | n=>n,fun | n=>n⟩
theorem Shelf.Laysn137:Go.Proofs.Lays.n137 Tryz.prog Shelf.Laysn137_ren:={
 mixed:=by kernel_rfl
 f137:=Tryz.func208.trans (congrArg some (by kernel_rfl))
 f217:=Tryz.func161.trans (congrArg some (by kernel_rfl))
 f266:=Tryz.func186.trans (congrArg some (by kernel_rfl))
 t3:=Tryz.underlying3
 a3:=Tryz.isAgg3
 z3:=Tryz.sizeOf3
 v3:=Tryz.zeroValue3
 t5:=Tryz.underlying5
 a5:=Tryz.isAgg5
 z5:=Tryz.sizeOf5
 v5:=Tryz.zeroValue5
 t9:=Tryz.underlying9
 a9:=Tryz.isAgg9
 z9:=Tryz.sizeOf9
 v9:=Tryz.zeroValue9}
open Go.RowKit in
theorem Shelf.strings_IndexByte (s:ByteArray)(c:Int)(w:World):
  Calls Tryz.prog 208 #[.string s,.int .u8 c] w fun e w'=>e=.returned (.int .i64 (Lib.indexByte s.data.toList c.toNat.toUInt8))∧w'=w:=Any.strings_IndexByte Shelf.Laysn137 s c w
end Go.Proofs.YtknelogmocedeaaGreatDoor
