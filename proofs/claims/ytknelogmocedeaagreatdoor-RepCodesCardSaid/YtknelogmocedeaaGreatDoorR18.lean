/- Several texts, one behind the other. code.Unhex at texts of at most two bytes. Conditions: that; the package's variable holds its sentinel. errors.As at an error type of the package Esc: a struct of one cell. No conditions beyond the shape of memory that each theorem names. errors.Is at an error of the package Esc that wraps the package's sentinel, against a sentinel: true just if it is that one (Go's text is walked). No conditions beyond the shape of memory that each theorem names. esc.told: the number of an error of the package esc. Conditions: the package's variable holds its sentinel. The built-in max and min of two ints, as laws for the walk, their result named. No conditions. esc's reader: rest, digits. Conditions: the shape of memory that each theorem names. -/
import Derived.Test.YtknelogmocedeaaGreatDoorR17
import Derived.Test.YtknelogmocedeaaGreatDoorR16
import Derived.Test.YtknelogmocedeaaGreatDoorProg
import Derived.WalkKit
import Derived.KernelRfl
import Derived.LaidEql
import Derived.Stop.Asserts
import Derived.RowKitTokens
import Derived.Test.YtknelogmocedeaaGreatDoorR01
import Derived.BigFrame
import Derived.Laws.Slices
import Derived.Test.YtknelogmocedeaaGreatDoorR15
namespace Go.Proofs.YtknelogmocedeaaGreatDoor.Code
open Go.RowKit
set_option linter.unusedVariables false
def unhexT(l:List UInt8):List UInt8:=(unhex2 l).getD []
def unhexC(l:List UInt8):Int:=if(unhex2 l).isSome then 0 else 50
theorem Unhex_calls(s:ByteArray)(hs:s.size≤2)(w:World)(p:Nat→Addr)(hG:Globs w p):Calls Tryz.prog 210 #[.string s] w fun e w'=>e=.returned (.tuple #[.string ⟨(unhexT s.data.toList).toArray⟩,.int .i64 (unhexC s.data.toList)])∧Below w.heap.size w w':=by
 go_enter Tryz.func210,Tryz.ntmps210
 go_wp2_with fail
 refine(unhex_calls s hs w).mono ?_
 rintro e w1 ⟨⟨v,rfl,hv⟩,hb⟩
 have HB:=Aside.mk hb
 have HG1:=Aside.mk (hG.below hb)
 clear hb
 rcases hv with⟨t,ht,rfl⟩ | ⟨hn,n,rfl⟩
 ·have HT:=Aside.mk (show unhexT s.data.toList=t∧unhexC s.data.toList=0 by unfold unhexT unhexC;rw[ht];exact⟨rfl,rfl⟩)
  clear ht
  go_wp2_with fail
  refine(ToldCode.told_nil w1 p HG1.out).mono ?_
  rintro e w2 ⟨rfl,hb⟩
  have HB2:=Aside.mk (below_then HB.out hb)
  clear hb
  go_wp2
  go_ret2
  exact⟨by rw[HT.out.1,HT.out.2];rfl,HB2.out⟩
 ·have HT:=Aside.mk (show unhexT s.data.toList=[]∧unhexC s.data.toList=50 by unfold unhexT unhexC;rw[hn];exact⟨rfl,rfl⟩)
  clear hn
  go_wp2_with fail
  refine(ToldCode.told_wrong _ rfl w1 p HG1.out).mono ?_
  rintro e w2 ⟨rfl,hb⟩
  have HB2:=Aside.mk (below_then HB.out hb)
  clear hb
  go_wp2
  go_ret2
  exact⟨by rw[HT.out.1,HT.out.2];rfl,HB2.out⟩
end Go.Proofs.YtknelogmocedeaaGreatDoor.Code
namespace Go.Proofs.YtknelogmocedeaaGreatDoor.AsEsc
open Go.RowKit Go.Extern.Stop Go.Stop Go.Extern AsG
theorem ok:Ok 331 333:=by
 refine⟨?_,?_,?_,?_,?_,?_,?_,?_,?_,?_,?_,?_,?_,?_,?_,Tryz.underlying333,?_⟩
 ·intros;kernel_rfl
 ·intros;kernel_rfl
 ·intros;kernel_rfl
 ·intros;kernel_rfl
 ·intros;kernel_rfl
 ·intros;kernel_rfl
 ·intros;kernel_rfl
 ·intros;kernel_rfl
 ·intros;kernel_rfl
 ·intros;kernel_rfl
 ·intros;kernel_rfl
 ·intros;kernel_rfl
 ·intros;kernel_rfl
 ·intros;kernel_rfl
 ·intros;kernel_rfl
 ·intro g b old0 x fr V hx hb ht
  have hl:=run_loadVar_row (P:=Tryz.prog) V b 331 331 #[x] fr _ hb Tryz.underlying331 rfl (by kernel_rfl)
  have hs:=run_storeVar_row (P:=Tryz.prog) V g 331 331 #[old0] #[x] ht (by kernel_rfl) rfl (by simp[hx])
  have p1:∀(a:Addr) (w:World),(ReflectliteValue.parts (.agg #[.pointer (some ⟨19,331,none⟩),.pointer (some a),.int .u64 409])).run Tryz.prog w=.ok (some (331,a,409)) w:=by intros;kernel_rfl
  have p2:∀(a:Addr) (w:World),(ReflectliteValue.parts (.agg #[.pointer (some ⟨19,331,none⟩),.pointer (some a),.int .u64 153])).run Tryz.prog w=.ok (some (331,a,153)) w:=by intros;kernel_rfl
  have p3:∀w:World,(Rtype.directlyAssignable 331 331).run Tryz.prog w=.ok true w:=by intros;kernel_rfl
  rw[rls]
  simp only[Sem.run_bind,p1,p2,Result.andThen]
  simp[ReflectliteValue.flagAddr,hl,hs,Result.andThen,p3]
theorem as_hit(g:Nat)(old0 x:Value)(w:World)(hx:x.oneCell'=true)(hg:w.cell? ⟨7,0,none⟩=some (.iface 263 (.agg #[.pointer (some ⟨19,98,none⟩)])))(ht:w.heap[g]? =some (.cells #[old0] 331 (0,0))):
  Calls Tryz.prog 85 #[.iface 331 (.agg #[x]),.iface 333 (.pointer (some ⟨g,0,none⟩))] w fun ev w'=>ev=.returned (.bool true)∧Below g w w'∧w'.heap[g]? =some (.cells #[x] 331 (0,0)):=AsG.as_hit ok g old0 x w hx hg ht
theorem as_nil(g:Nat)(old0:Value)(w:World)(ht:w.heap[g]? =some (.cells #[old0] 331 (0,0))):
  Calls Tryz.prog 85 #[.nilIface,.iface 333 (.pointer (some ⟨g,0,none⟩))] w fun ev w'=>ev=.returned (.bool false)∧Below w.heap.size w w':=AsG.as_nil 331 333 g old0 w ht
end Go.Proofs.YtknelogmocedeaaGreatDoor.AsEsc
namespace Go.Proofs.YtknelogmocedeaaGreatDoor.IsEsc
open Go.RowKit Go.Extern.Stop Go.Stop Go.Extern
theorem isTypeOf(v:Value)(w:World):(Extern.ReflectliteType.typeOf #[.iface 348 v]).run Tryz.prog w=.ok (.iface 263 (.agg #[.pointer (some ⟨19,348,none⟩)])) w:=by kernel_rfl
def cmpEntry:Array Value→Sem Value:=Extern.ReflectliteType.method fun t=>do Rtype.noPackHeld "Comparable" t;pure (.bool (←typeInfo t).comparable)
theorem isComparable(w:World):(cmpEntry #[.agg #[.pointer (some ⟨19,348,none⟩)]]).run Tryz.prog w=.ok (.bool true) w:=by kernel_rfl
theorem isMethodComparable(v:Value)(w:World):(Go.method 477 263 v "Comparable").run Tryz.prog w=.ok (246,v) w:=by kernel_rfl
theorem isComp:(Tryz.prog.info? 348).map (·.comparable)=some true:=by kernel_rfl
theorem isSize:(Tryz.prog.info? 366).map (·.size)=some 1:=by kernel_rfl
theorem noIsE(v:Value)(xT:TypeId)(w:World):(Instr.typeAssert (.iface 348 v) xT 274 true).run Tryz.prog w=.ok (.tuple #[.nilIface,.bool false]) w:=run_typeAssert_lacksB Tryz.underlying274 (by kernel_rfl) (by kernel_rfl) v xT w
theorem noUnwrapE(v:Value)(xT:TypeId)(w:World):(Instr.typeAssert (.iface 348 v) xT 270 true).run Tryz.prog w=.ok (.tuple #[.nilIface,.bool false]) w:=run_typeAssert_lacksB Tryz.underlying270 (by kernel_rfl) (by kernel_rfl) v xT w
theorem noUnwrapsE(v:Value)(xT:TypeId)(w:World):(Instr.typeAssert (.iface 348 v) xT 271 true).run Tryz.prog w=.ok (.tuple #[.nilIface,.bool false]) w:=run_typeAssert_lacksB Tryz.underlying271 (by kernel_rfl) (by kernel_rfl) v xT w
theorem noIsW(v:Value)(xT:TypeId)(w:World):(Instr.typeAssert (.iface 331 v) xT 274 true).run Tryz.prog w=.ok (.tuple #[.nilIface,.bool false]) w:=run_typeAssert_lacksB Tryz.underlying274 (by kernel_rfl) (by kernel_rfl) v xT w
theorem hasUnwrapW(v:Value)(xT:TypeId)(w:World):(Instr.typeAssert (.iface 331 v) xT 270 true).run Tryz.prog w=.ok (.tuple #[.iface 331 v,.bool true]) w:=run_typeAssert_hasB Tryz.underlying270 (by kernel_rfl) v xT w
theorem methodUnwrap(v:Value)(w:World):(Go.method 477 331 v "Unwrap").run Tryz.prog w=.ok (261,v) w:=by kernel_rfl
set_option maxRecDepth 100000 in
set_option maxHeartbeats 4000000 in
theorem is_same(x:Value)(b:Addr)(w:World)(hg:w.cell? ⟨14,0,none⟩=some (.iface 348 (.pointer (some b)))):
  Calls Tryz.prog 86 #[.iface 331 (.agg #[x]),.iface 348 (.pointer (some b))] w fun e w'=>e=.returned (.bool true)∧w.alloc (.cells #[x] 331)=w':=by
 obtain⟨i,hi,hcmp⟩:=Option.map_eq_some_iff.1 isComp
 obtain⟨j,hj,hjs⟩:=Option.map_eq_some_iff.1 isSize
 have h8:= @run_callFunc_extern Tryz.prog 121 _ Extern.ReflectliteType.typeOf Tryz.func121 (by kernel_rfl) (by kernel_rfl) (by kernel_rfl) (by kernel_rfl)
 have h32:= @run_callFunc_extern Tryz.prog 246 _ cmpEntry Tryz.func246 (by kernel_rfl) (by kernel_rfl) (by kernel_rfl) (by kernel_rfl)
 have tT:=isTypeOf
 have cT:=isComparable
 have mR:=isMethodComparable
 have nE:=noIsE
 have uE:=noUnwrapE
 have vE:=noUnwrapsE
 have nW:=noIsW
 have uW:=hasUnwrapW
 have mU:=methodUnwrap
 have heq:=run_eql_iface_ptr_same (P:=Tryz.prog) (w.alloc (.cells #[x] 331)) b Tryz.underlying98 Tryz.underlying348 hi hcmp hj
 have hty:=run_eql_iface_types (P:=Tryz.prog) 331 348 (.agg #[x]) (.pointer (some b)) Tryz.underlying98 (by decide) w
 clear hi hcmp hj hjs
 have hlt:=World.block_lt_of_cell? w _ hg
 go_enter Tryz.func86,Tryz.ntmps86
 go_wp2
 refine wp_loop_rounds 2 ?_
 rw[rounds_succ]
 go_wp2
 rw[rounds_succ]
 go_wp2
 go_ret
 exact⟨rfl,rfl⟩
set_option maxRecDepth 100000 in
theorem is_nil(b:Addr)(w:World):
  Calls Tryz.prog 86 #[.nilIface,.iface 348 (.pointer (some b))] w fun e w'=>e=.returned (.bool false)∧w=w':=by
 have hnl:=fun w=>run_eql_iface_nil_left (P:=Tryz.prog) (w:=w) 348 (.pointer (some b)) Tryz.underlying98
 go_enter Tryz.func86,Tryz.ntmps86
 go_wp2
 go_ret
 exact⟨rfl,rfl⟩
end Go.Proofs.YtknelogmocedeaaGreatDoor.IsEsc
namespace Go.Proofs.YtknelogmocedeaaGreatDoor.ToldEsc
open Go.RowKit
theorem told_nil(w:World)(p:Nat→Addr)(h:Globs w p):Calls Tryz.prog 185 #[.nilIface] w fun e w'=>e=.returned (.int .i64 0)∧Below w.heap.size w w':=by
 have k0:=h.cell 14 (by decide)
 have hlt:=World.block_lt_of_cell? w _ k0
 clear h
 go_enter Tryz.func185,Tryz.ntmps185
 go_wp2_with fail
 have h1:=Aside.mk (below_new w (.cells #[.int .i64 0] 331))
 refine(AsEsc.as_nil w.heap.size (.int .i64 0) _ (World.alloc_heap_new w _)).mono ?_
 rintro e w0 ⟨rfl,hb⟩
 have H0:=Aside.mk (below_then h1.out hb)
 clear hb
 go_wp2
 go_ret
 exact⟨rfl,H0.out⟩
set_option maxHeartbeats 1000000 in
theorem told_wrong(x:Value)(hx:x.oneCell'=true)(w:World)(p:Nat→Addr)(h:Globs w p):
  Calls Tryz.prog 185 #[.iface 331 (.agg #[x])] w fun e w'=>e=.returned (.int .i64 60)∧Below w.heap.size w w':=by
 have k0:=h.cell 14 (by decide)
 have hlt:=World.block_lt_of_cell? w _ k0
 go_enter Tryz.func185,Tryz.ntmps185
 go_wp2_with fail
 have h1:Below w.heap.size w (w.alloc (.cells #[.int .i64 0] 331)):=below_new _ _
 refine(AsEsc.as_hit w.heap.size (.int .i64 0) x _ hx (h.below h1).et (World.alloc_heap_new w _)).mono ?_
 rintro e w0 ⟨rfl,hb,hc⟩
 have H0:=Aside.mk (h1.trans hb)
 have h0:=h.below H0.out
 clear h h1 hb hc k0 hlt
 have k0:=h0.cell 14 (by decide)
 have hlt:=World.block_lt_of_cell? w0 _ k0
 go_wp2_with fail
 refine(IsEsc.is_same x _ _ k0).mono ?_
 rintro e w1 ⟨rfl,hb⟩
 have H1:=Aside.mk (show Below w.heap.size w w1 from below_then H0.out (by rw[←hb];exact below_new _ _))
 clear k0 hb hlt
 go_wp2
 go_ret
 exact⟨rfl,H1.out⟩
end Go.Proofs.YtknelogmocedeaaGreatDoor.ToldEsc
namespace Go.Proofs.YtknelogmocedeaaGreatDoor
open Go.RowKit
set_option linter.unusedVariables false
end Go.Proofs.YtknelogmocedeaaGreatDoor
namespace Go.Proofs.YtknelogmocedeaaGreatDoor.Esc
open Go.RowKit
set_option linter.unusedVariables false
theorem rest_calls{w:World}{B:Nat}{s:ByteArray}{at_:Nat}{nm:Bool}{l:List UInt8}(h:RD w B s at_ nm l)(ha:at_≤s.size)(hs:s.size≤1000000000){r:ByteArray}(hr:s.extract at_ s.size=r):
  Calls Tryz.prog 205 #[.pointer (some ⟨B,0,none⟩)] w fun e w'=>e=.returned (.string r)∧RD w' B s at_ nm l∧Below w.heap.size w w':=by
 subst hr
 have HR:=Aside.mk h
 obtain⟨p,v,h1,_⟩:=h
 have c0:=cel h1 0 (v:=.string s) rfl
 have c1:=cel h1 1 (v:=.int .i64 at_) rfl
 have hai:(at_:Int)≤(s.size:Int):=by omega
 have ha0:(0:Int)≤(at_:Int):=by omega
 clear h1
 go_enter Tryz.func205,Tryz.ntmps205
 go_wp2_with fail
 go_quiet (fail)
 go_wp2
 go_ret
 exact⟨rfl,HR.out.below (below_drewN _ _),below_drewN _ _⟩
theorem RD.setAt {w:World}{B:Nat}{s:ByteArray}{at_:Nat}{nm:Bool}{l:List UInt8}(h:RD w B s at_ nm l)(a:Nat):RD (w.setCell ⟨B,1,none⟩ (.int .i64 (a:Int))) B s a nm l:=by
 obtain⟨p,v,h1,h2,h3,h4⟩:=h
 exact⟨p,v,set_blk h1 1 _,h2,ownsRow_upd h3 (Upd.of_grown (S:=fun k=>k=B) (set_grown w B 1 _) rfl) (fun k hk=>by have:=(h3.lt k hk).1;omega),h4⟩
def DigRes(w0:World)(B:Nat)(s:ByteArray)(at_:Nat)(nm:Bool)(l:List UInt8)(e:Ending)(w':World):Prop:=
 (∃z,digitAt s at_=some z∧e=.returned .nilIface∧RD w' B s (at_+2) nm (l++[z])∧at_+2≤s.size∧Below w0.heap.size w0 w')∨(digitAt s at_=none∧(∃n:Int,e=.returned (.iface 331 (.agg #[.int .i64 n])))∧Below w0.heap.size w0 w')
set_option maxHeartbeats 4000000 in
theorem digits_calls{w0 w:World}{B:Nat}{s:ByteArray}{at_:Nat}{nm:Bool}{l:List UInt8}{p:Nat→Addr}(h:RD w B s at_ nm l)(hG0:Globs w0 p)(h0:Below w0.heap.size w0 w)(hB0:w0.heap.size≤B)(ha:at_≤s.size)(hs:s.size≤100000000)(hl:l.length≤100000000):
  Calls Tryz.prog 206 #[.pointer (some ⟨B,0,none⟩)] w (DigRes w0 B s at_ nm l):=by
 have hG:=hG0.below h0
 obtain⟨r,hr⟩:∃r,s.extract at_ s.size=r:=⟨_,rfl⟩
 have hrs:r.size=s.size - at_:=by rw[←hr];exact extract_size s _ _ ha (Nat.le_refl _)
 obtain⟨m,hm⟩:∃m,min 2 r.size=m:=⟨_,rfl⟩
 have hm1:m≤2:=by omega
 have hm2:m≤r.size:=by omega
 have hmi:min (2:Int) (r.size:Int)=(m:Int):=by omega
 have hmz:(m:Int)≤(r.size:Int):=by omega
 have hsz:(r.extract 0 m).size≤2:=by rw[extract_size r _ _ (Nat.zero_le _) hm2];omega
 have hs':s.size≤1000000000:=by omega
 have HR:=Aside.mk hr
 have HRS:=Aside.mk hrs
 have HM:=Aside.mk hm
 have HS2:=Aside.mk hsz
 clear hr hrs hm hsz
 go_enter Tryz.func206,Tryz.ntmps206
 go_wp2_with fail
 go_region_held3 (fun w'=>RD w' B s at_ nm l∧Globs w' p∧Below w.heap.size w w') (first | exact⟨h.below (below_drew _),hG.below (below_drew _),below_drew _⟩ | exact⟨k1,k2,k3⟩)
  (first
   | (go_at_call 205;refine(rest_calls (by first | exact k1 | exact h.below (below_drew _)) ha hs' HR.out).mono ?_;rintro e w1 ⟨rfl,k4,hb⟩;have k5:=Globs.below (p:=p) (by first | exact k2 | exact hG.below (below_drew _)) hb;have k6:=below_then (w:=w) (by first | exact k3 | exact below_drew _) hb;clear hb;have k1:=k4;have k2:=k5;have k3:=k6;clear k4 k5 k6)
   | (go_at_call 210;refine(Code.Unhex_calls _ HS2.out _ p (by first | exact k2 | exact hG.below (below_drew _))).mono ?_;rintro e w1 ⟨rfl,hb⟩;have k4:=RD.below (B:=B) (s:=s) (at_:=at_) (nm:=nm) (l:=l) (by first | exact k1 | exact h.below (below_drew _)) hb;have k5:=Globs.below (p:=p) (by first | exact k2 | exact hG.below (below_drew _)) hb;have k6:=below_then (w:=w) (by first | exact k3 | exact below_drew _) hb;clear hb;have k1:=k4;have k2:=k5;have k3:=k6;clear k4 k5 k6))
 all_goals
  have HK1:=Aside.mk k1
  have HK3:=Aside.mk (below_then h0 k3)
  clear k1 k2 k3 h hG
  have hrl:r.data.toList=s.data.toList.drop at_:=by rw[←HR.out];exact Lib.extract_to_end s at_
  have htw:r.data.toList.take m=two s at_:=by
   unfold two
   rw[hrl,←HM.out]
   rcases Nat.lt_or_ge r.size 2 with h | h
   ·rw[Nat.min_eq_right (by omega),List.take_of_length_le (by rw[←hrl,Txt.size_list];omega),List.take_of_length_le (by rw[←hrl,Txt.size_list];omega)]
   ·rw[Nat.min_eq_left h]
  rw[htw]
  clear hrl htw
  rcases unhex2_cases (two s at_) with hu | hu | ⟨z,hu⟩
  ·have HD:=Aside.mk (show digitAt s at_=none by unfold digitAt;rw[hu])
   have e1:Code.unhexT (two s at_)=[]:=by unfold Code.unhexT;rw[hu];rfl
   have e2:Code.unhexC (two s at_)=50:=by unfold Code.unhexC;rw[hu];rfl
   rw[e1,e2]
   clear e1 e2 hu
   obtain⟨p',v,hb,_⟩:=HK1.out
   have c1:=cel hb 1 (v:=.int .i64 at_) rfl
   clear hb
   go_wp2
   go_ret
   exact .inr ⟨HD.out,⟨_,rfl⟩,HK3.out⟩
  ·have HD:=Aside.mk (show digitAt s at_=none by unfold digitAt;rw[hu])
   have e1:Code.unhexT (two s at_)=[]:=by unfold Code.unhexT;rw[hu];rfl
   have e2:Code.unhexC (two s at_)=0:=by unfold Code.unhexC;rw[hu];rfl
   rw[e1,e2]
   clear e1 e2 hu
   obtain⟨p',v,hb,_⟩:=HK1.out
   have c1:=cel hb 1 (v:=.int .i64 at_) rfl
   clear hb
   go_wp2
   go_ret
   exact .inr ⟨HD.out,⟨_,rfl⟩,HK3.out⟩
  ·have HD:=Aside.mk (show digitAt s at_=some z by unfold digitAt;rw[hu])
   have h2:at_+2≤s.size:=by
    have hl2:(two s at_).length=2:=by
     match hq:two s at_,hu with
     | [],hu=>simp[Code.unhex2] at hu
     | [_],hu=>simp[Code.unhex2] at hu
     | [a,b],_=>rfl
     | _::_::_::_,hu=>simp[Code.unhex2] at hu
    unfold two at hl2
    rw[List.length_take,List.length_drop,Txt.size_list] at hl2
    omega
   have e1:Code.unhexT (two s at_)=[z]:=by unfold Code.unhexT;rw[hu];rfl
   have e2:Code.unhexC (two s at_)=0:=by unfold Code.unhexC;rw[hu];rfl
   rw[e1,e2]
   clear e1 e2 hu
   obtain⟨p',v,hb,hr2⟩:=HK1.out
   have c1:=cel hb 1 (v:=.int .i64 at_) rfl
   have f1:=frz hb 1
   have HBk:=Aside.mk hb
   have HR2:=Aside.mk hr2
   clear hb hr2
   have hBl:B < w1.heap.size:=(Array.getElem?_eq_some_iff.1 HBk.out).1
   go_wp2_with fail
   have hrd:=RD.setAt HK1.out (at_+2)
   have hbb:Below w0.heap.size w0 (w1.setCell ⟨B,1,none⟩ (.int .i64 ((at_+2:Nat):Int))):=HK3.out.setCell (p:=⟨B,1,none⟩) hB0 _
   have hbs:B < (w1.setCell ⟨B,1,none⟩ (.int .i64 ((at_+2:Nat):Int))).heap.size:=by simpa [World.setCell] using hBl
   refine(wstring hrd hbs [z] (by simp) (by simp;omega)).mono ?_
   rintro e w9 ⟨⟨v9,rfl⟩,k9,b9⟩
   have K9:=Aside.mk k9
   have B9:=Aside.mk (hbb.trans (b9.mono hB0))
   clear hrd hbb hbs k9 b9
   go_wp2
   go_ret
   exact .inl ⟨z,HD.out,rfl,K9.out,h2,B9.out⟩
end Go.Proofs.YtknelogmocedeaaGreatDoor.Esc
