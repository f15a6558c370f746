/- esc's reader: signed. Conditions: the shape of memory that each theorem names. -/
import Derived.Test.YtknelogmocedeaaGreatDoorR18
namespace Go.Proofs.YtknelogmocedeaaGreatDoor.Esc
open Go.RowKit
set_option linter.unusedVariables false
def SgnRes(w0:World)(B:Nat)(s:ByteArray)(at_:Nat)(nm:Bool)(l:List UInt8)(e:Ending)(w':World):Prop:=
 (∃z a,signAt nm s (at_+1)=some (z,a)∧e=.returned .nilIface∧RD w' B s a nm (l++[z])∧at_ < a∧a≤s.size∧Below w0.heap.size w0 w')∨(signAt nm s (at_+1)=none∧(∃n:Int,e=.returned (.iface 331 (.agg #[.int .i64 n])))∧Below w0.heap.size w0 w')
theorem index_head(b:UInt8)(t:List UInt8)(W:World):(Instr.index 9 (.string ⟨(b::t).toArray⟩) (.int .i64 0)).run Tryz.prog W=.ok (.int .u8 b.toNat) W:=by
 have hsz:(0:Int) < (((⟨(b::t).toArray⟩:ByteArray).size:Nat):Int):=by
  rw[Txt.size_mk];simp
 go_simp
 rfl
theorem ne_of_list{b:UInt8}{n:Nat}(hn:signs10.contains (UInt8.ofNat n)=true∧n < 256)(h:signs10.contains b=false):((b.toNat:Int)==(n:Int))=false:=by
 rw[beq_eq_false_iff_ne]
 intro e
 have:b=UInt8.ofNat n:=by
  rw[←UInt8.toNat_inj,UInt8.toNat_ofNat'];omega
 rw[this,hn.1] at h
 cases h
theorem sgn_of_dig{w0:World}{B:Nat}{s:ByteArray}{at_:Nat}{nm:Bool}{l:List UInt8}{e:Ending}{w':World}(hs:signAt nm s (at_+1)=(digitAt s (at_+1)).map fun z=>(z,at_+1+2))(h:DigRes w0 B s (at_+1) nm l e w'):SgnRes w0 B s at_ nm l e w':=by
 rcases h with⟨z,h1,h2,h3,h4,h5⟩ | ⟨h1,h2,h3⟩
 ·exact .inl ⟨z,_,by rw[hs,h1];rfl,h2,h3,by omega,h4,h5⟩
 ·exact .inr ⟨by rw[hs,h1];rfl,h2,h3⟩
theorem dig_shape{w0:World}{B:Nat}{s:ByteArray}{at_:Nat}{nm:Bool}{l:List UInt8}{e:Ending}{w':World}(h:DigRes w0 B s at_ nm l e w'):∃v,e=.returned v:=by
 rcases h with⟨z,h1,h2,_⟩ | ⟨h1,⟨n,h2⟩,h3⟩
 ·exact⟨_,h2⟩
 ·exact⟨_,h2⟩
set_option maxRecDepth 100000 in
set_option maxHeartbeats 8000000 in
theorem signed_calls{w0 w:World}{B:Nat}{s:ByteArray}{at_:Nat}{nm:Bool}{l:List UInt8}{p:Nat→Addr}(h:RD w B s at_ nm l)(hG0:Globs w0 p)(h0:Below w0.heap.size w0 w)(hB0:w0.heap.size≤B)(ha:at_ < s.size)(hs:s.size≤100000000)(hl:l.length≤100000000):
  Calls Tryz.prog 198 #[.pointer (some ⟨B,0,none⟩)] w (SgnRes w0 B s at_ nm l):=by
 have hs':s.size≤1000000000:=by omega
 have HRD:=Aside.mk (RD.setAt h (at_+1))
 have HB1:=Aside.mk (show Below w0.heap.size w0 (w.setCell ⟨B,1,none⟩ (.int .i64 ((at_+1:Nat):Int))) from h0.setCell (p:=⟨B,1,none⟩) hB0 _)
 have HG:=Aside.mk hG0
 obtain⟨p',v,hb,hr⟩:=h
 have c1:=cel hb 1 (v:=.int .i64 at_) rfl
 have f1:=frz hb 1
 have hBl:B < w.heap.size:=(Array.getElem?_eq_some_iff.1 hb).1
 have c2:(w.setCell ⟨B,1,none⟩ (.int .i64 ((at_+1:Nat):Int))).cell? ⟨B,2,none⟩=some (.bool nm):=cel (set_blk hb 1 _) 2 rfl
 rw[show((at_+1:Nat):Int)=(at_:Int)+1 from rfl] at HRD HB1 c2
 have hai:(at_:Int)≤100000000:=by omega
 have ha0:(0:Int)≤(at_:Int):=by omega
 clear hb hr h0 hG0
 cases nm with
 | false=>
  have HS:=Aside.mk (show signAt false s (at_+1)=(digitAt s (at_+1)).map fun z=>(z,at_+1+2) by unfold signAt;split <;> rfl)
  go_enter Tryz.func198,Tryz.ntmps198
  go_wp2_with fail
  refine(digits_calls HRD.out HG.out HB1.out hB0 (by omega) hs hl).mono ?_
  intro e w9 hd
  have HD:=Aside.mk hd
  obtain⟨v9,rfl⟩:=dig_shape hd
  clear hd
  go_wp2
  go_ret
  exact sgn_of_dig HS.out HD.out
 | true=>
  obtain⟨r,hr⟩:∃r,s.extract (at_+1) s.size=r:=⟨_,rfl⟩
  have hrl:r.data.toList=s.data.toList.drop (at_+1):=by rw[←hr];exact Lib.extract_to_end s _
  have HR:=Aside.mk hr
  clear hr
  by_cases hend:at_+1 < s.size
  ·rw[Txt.drop_cons s (at_+1) hend] at hrl
   obtain⟨t,ht⟩:∃t,s.data.toList.drop (at_+1+1)=t:=⟨_,rfl⟩
   rw[ht] at hrl
   have hre:r=⟨(s[at_+1]::t).toArray⟩:=by rw[←hrl,Txt.mk_list]
   have HSy:=Aside.mk (show signs10.contains s[at_+1]=true→signAt true s (at_+1)=some (s[at_+1],at_+1+1) by intro hc;unfold signAt;rw[dif_pos hend,Bool.true_and,if_pos hc])
   have HSn:=Aside.mk (show signs10.contains s[at_+1]=false→signAt true s (at_+1)=(digitAt s (at_+1)).map fun z=>(z,at_+1+2) by intro hc;unfold signAt;rw[dif_pos hend,Bool.true_and,if_neg (by rw[hc];exact Bool.false_ne_true)])
   generalize s[at_+1]=b at hre HSy HSn
   clear hrl ht
   subst hre
   have hidx:∀W:World,(Instr.index 9 (.string ⟨(b::t).toArray⟩) (.int .i64 0)).run Tryz.prog W=.ok (.int .u8 b.toNat) W:=fun W=>index_head b t W
   have hcls:(b=32∨b=35∨b=61∨b=34∨b=43∨b=44∨b=59∨b=60∨b=62∨b=92)∨signs10.contains b=false:=by
    by_cases hc:signs10.contains b=true
    ·left
     rw[List.contains_iff_mem] at hc
     simp only[signs10,List.mem_cons,List.not_mem_nil,or_false] at hc
     exact hc
    ·exact .inr (by simpa using hc)
   have HST:=Aside.mk (fun W (hr:RD W B s (at_+1) true (l++[b]))=>RD.setAt hr (at_+1+1))
   rcases hcls with(rfl | rfl | rfl | rfl | rfl | rfl | rfl | rfl | rfl | rfl) | hcls
   ·have HC:=Aside.mk (HSy.out (by decide))
    clear HSy HSn
    go_enter Tryz.func198,Tryz.ntmps198
    go_wp2_with fail
    refine(rest_calls HRD.out (by omega) hs' HR.out).mono ?_
    rintro e w2 ⟨rfl,k1,hb⟩
    have K1:=Aside.mk k1
    have K2:=Aside.mk (HB1.out.trans (hb.mono (HB1.out.size)))
    clear k1 hb
    go_wp2_with fail
    refine(rest_calls K1.out (by omega) hs' HR.out).mono ?_
    rintro e w3 ⟨rfl,k1,hb⟩
    have hB3:B < w3.heap.size:=(Array.getElem?_eq_some_iff.1 k1.choose_spec.choose_spec.1).1
    have K3:=Aside.mk k1
    have K4:=Aside.mk (K2.out.trans (hb.mono (K2.out.size)))
    clear k1 hb
    go_wp2_with fail
    refine(wbyte K3.out hB3 (by omega) 32).mono ?_
    rintro e w4 ⟨rfl,k1,hb⟩
    have K5:=Aside.mk (HST.out _ k1)
    have K6:=Aside.mk ((K4.out.trans (hb.mono hB0)).setCell (p:=⟨B,1,none⟩) hB0 (.int .i64 ((at_+1+1:Nat):Int)))
    obtain⟨p4,v4,hb4,_⟩:=k1
    have d1:=cel hb4 1 (v:=.int .i64 ((at_:Int)+1)) rfl
    have g1:=frz hb4 1
    clear hb hb4
    go_wp2
    go_ret
    exact .inl ⟨_,_,HC.out,rfl,K5.out,by omega,by omega,K6.out⟩
   ·have HC:=Aside.mk (HSy.out (by decide))
    clear HSy HSn
    go_enter Tryz.func198,Tryz.ntmps198
    go_wp2_with fail
    refine(rest_calls HRD.out (by omega) hs' HR.out).mono ?_
    rintro e w2 ⟨rfl,k1,hb⟩
    have K1:=Aside.mk k1
    have K2:=Aside.mk (HB1.out.trans (hb.mono (HB1.out.size)))
    clear k1 hb
    go_wp2_with fail
    refine(rest_calls K1.out (by omega) hs' HR.out).mono ?_
    rintro e w3 ⟨rfl,k1,hb⟩
    have hB3:B < w3.heap.size:=(Array.getElem?_eq_some_iff.1 k1.choose_spec.choose_spec.1).1
    have K3:=Aside.mk k1
    have K4:=Aside.mk (K2.out.trans (hb.mono (K2.out.size)))
    clear k1 hb
    go_wp2_with fail
    refine(wbyte K3.out hB3 (by omega) 35).mono ?_
    rintro e w4 ⟨rfl,k1,hb⟩
    have K5:=Aside.mk (HST.out _ k1)
    have K6:=Aside.mk ((K4.out.trans (hb.mono hB0)).setCell (p:=⟨B,1,none⟩) hB0 (.int .i64 ((at_+1+1:Nat):Int)))
    obtain⟨p4,v4,hb4,_⟩:=k1
    have d1:=cel hb4 1 (v:=.int .i64 ((at_:Int)+1)) rfl
    have g1:=frz hb4 1
    clear hb hb4
    go_wp2
    go_ret
    exact .inl ⟨_,_,HC.out,rfl,K5.out,by omega,by omega,K6.out⟩
   ·have HC:=Aside.mk (HSy.out (by decide))
    clear HSy HSn
    go_enter Tryz.func198,Tryz.ntmps198
    go_wp2_with fail
    refine(rest_calls HRD.out (by omega) hs' HR.out).mono ?_
    rintro e w2 ⟨rfl,k1,hb⟩
    have K1:=Aside.mk k1
    have K2:=Aside.mk (HB1.out.trans (hb.mono (HB1.out.size)))
    clear k1 hb
    go_wp2_with fail
    refine(rest_calls K1.out (by omega) hs' HR.out).mono ?_
    rintro e w3 ⟨rfl,k1,hb⟩
    have hB3:B < w3.heap.size:=(Array.getElem?_eq_some_iff.1 k1.choose_spec.choose_spec.1).1
    have K3:=Aside.mk k1
    have K4:=Aside.mk (K2.out.trans (hb.mono (K2.out.size)))
    clear k1 hb
    go_wp2_with fail
    refine(wbyte K3.out hB3 (by omega) 61).mono ?_
    rintro e w4 ⟨rfl,k1,hb⟩
    have K5:=Aside.mk (HST.out _ k1)
    have K6:=Aside.mk ((K4.out.trans (hb.mono hB0)).setCell (p:=⟨B,1,none⟩) hB0 (.int .i64 ((at_+1+1:Nat):Int)))
    obtain⟨p4,v4,hb4,_⟩:=k1
    have d1:=cel hb4 1 (v:=.int .i64 ((at_:Int)+1)) rfl
    have g1:=frz hb4 1
    clear hb hb4
    go_wp2
    go_ret
    exact .inl ⟨_,_,HC.out,rfl,K5.out,by omega,by omega,K6.out⟩
   ·have HC:=Aside.mk (HSy.out (by decide))
    clear HSy HSn
    go_enter Tryz.func198,Tryz.ntmps198
    go_wp2_with fail
    refine(rest_calls HRD.out (by omega) hs' HR.out).mono ?_
    rintro e w2 ⟨rfl,k1,hb⟩
    have K1:=Aside.mk k1
    have K2:=Aside.mk (HB1.out.trans (hb.mono (HB1.out.size)))
    clear k1 hb
    go_wp2_with fail
    refine(rest_calls K1.out (by omega) hs' HR.out).mono ?_
    rintro e w3 ⟨rfl,k1,hb⟩
    have hB3:B < w3.heap.size:=(Array.getElem?_eq_some_iff.1 k1.choose_spec.choose_spec.1).1
    have K3:=Aside.mk k1
    have K4:=Aside.mk (K2.out.trans (hb.mono (K2.out.size)))
    clear k1 hb
    go_wp2_with fail
    refine(wbyte K3.out hB3 (by omega) 34).mono ?_
    rintro e w4 ⟨rfl,k1,hb⟩
    have K5:=Aside.mk (HST.out _ k1)
    have K6:=Aside.mk ((K4.out.trans (hb.mono hB0)).setCell (p:=⟨B,1,none⟩) hB0 (.int .i64 ((at_+1+1:Nat):Int)))
    obtain⟨p4,v4,hb4,_⟩:=k1
    have d1:=cel hb4 1 (v:=.int .i64 ((at_:Int)+1)) rfl
    have g1:=frz hb4 1
    clear hb hb4
    go_wp2
    go_ret
    exact .inl ⟨_,_,HC.out,rfl,K5.out,by omega,by omega,K6.out⟩
   ·have HC:=Aside.mk (HSy.out (by decide))
    clear HSy HSn
    go_enter Tryz.func198,Tryz.ntmps198
    go_wp2_with fail
    refine(rest_calls HRD.out (by omega) hs' HR.out).mono ?_
    rintro e w2 ⟨rfl,k1,hb⟩
    have K1:=Aside.mk k1
    have K2:=Aside.mk (HB1.out.trans (hb.mono (HB1.out.size)))
    clear k1 hb
    go_wp2_with fail
    refine(rest_calls K1.out (by omega) hs' HR.out).mono ?_
    rintro e w3 ⟨rfl,k1,hb⟩
    have hB3:B < w3.heap.size:=(Array.getElem?_eq_some_iff.1 k1.choose_spec.choose_spec.1).1
    have K3:=Aside.mk k1
    have K4:=Aside.mk (K2.out.trans (hb.mono (K2.out.size)))
    clear k1 hb
    go_wp2_with fail
    refine(wbyte K3.out hB3 (by omega) 43).mono ?_
    rintro e w4 ⟨rfl,k1,hb⟩
    have K5:=Aside.mk (HST.out _ k1)
    have K6:=Aside.mk ((K4.out.trans (hb.mono hB0)).setCell (p:=⟨B,1,none⟩) hB0 (.int .i64 ((at_+1+1:Nat):Int)))
    obtain⟨p4,v4,hb4,_⟩:=k1
    have d1:=cel hb4 1 (v:=.int .i64 ((at_:Int)+1)) rfl
    have g1:=frz hb4 1
    clear hb hb4
    go_wp2
    go_ret
    exact .inl ⟨_,_,HC.out,rfl,K5.out,by omega,by omega,K6.out⟩
   ·have HC:=Aside.mk (HSy.out (by decide))
    clear HSy HSn
    go_enter Tryz.func198,Tryz.ntmps198
    go_wp2_with fail
    refine(rest_calls HRD.out (by omega) hs' HR.out).mono ?_
    rintro e w2 ⟨rfl,k1,hb⟩
    have K1:=Aside.mk k1
    have K2:=Aside.mk (HB1.out.trans (hb.mono (HB1.out.size)))
    clear k1 hb
    go_wp2_with fail
    refine(rest_calls K1.out (by omega) hs' HR.out).mono ?_
    rintro e w3 ⟨rfl,k1,hb⟩
    have hB3:B < w3.heap.size:=(Array.getElem?_eq_some_iff.1 k1.choose_spec.choose_spec.1).1
    have K3:=Aside.mk k1
    have K4:=Aside.mk (K2.out.trans (hb.mono (K2.out.size)))
    clear k1 hb
    go_wp2_with fail
    refine(wbyte K3.out hB3 (by omega) 44).mono ?_
    rintro e w4 ⟨rfl,k1,hb⟩
    have K5:=Aside.mk (HST.out _ k1)
    have K6:=Aside.mk ((K4.out.trans (hb.mono hB0)).setCell (p:=⟨B,1,none⟩) hB0 (.int .i64 ((at_+1+1:Nat):Int)))
    obtain⟨p4,v4,hb4,_⟩:=k1
    have d1:=cel hb4 1 (v:=.int .i64 ((at_:Int)+1)) rfl
    have g1:=frz hb4 1
    clear hb hb4
    go_wp2
    go_ret
    exact .inl ⟨_,_,HC.out,rfl,K5.out,by omega,by omega,K6.out⟩
   ·have HC:=Aside.mk (HSy.out (by decide))
    clear HSy HSn
    go_enter Tryz.func198,Tryz.ntmps198
    go_wp2_with fail
    refine(rest_calls HRD.out (by omega) hs' HR.out).mono ?_
    rintro e w2 ⟨rfl,k1,hb⟩
    have K1:=Aside.mk k1
    have K2:=Aside.mk (HB1.out.trans (hb.mono (HB1.out.size)))
    clear k1 hb
    go_wp2_with fail
    refine(rest_calls K1.out (by omega) hs' HR.out).mono ?_
    rintro e w3 ⟨rfl,k1,hb⟩
    have hB3:B < w3.heap.size:=(Array.getElem?_eq_some_iff.1 k1.choose_spec.choose_spec.1).1
    have K3:=Aside.mk k1
    have K4:=Aside.mk (K2.out.trans (hb.mono (K2.out.size)))
    clear k1 hb
    go_wp2_with fail
    refine(wbyte K3.out hB3 (by omega) 59).mono ?_
    rintro e w4 ⟨rfl,k1,hb⟩
    have K5:=Aside.mk (HST.out _ k1)
    have K6:=Aside.mk ((K4.out.trans (hb.mono hB0)).setCell (p:=⟨B,1,none⟩) hB0 (.int .i64 ((at_+1+1:Nat):Int)))
    obtain⟨p4,v4,hb4,_⟩:=k1
    have d1:=cel hb4 1 (v:=.int .i64 ((at_:Int)+1)) rfl
    have g1:=frz hb4 1
    clear hb hb4
    go_wp2
    go_ret
    exact .inl ⟨_,_,HC.out,rfl,K5.out,by omega,by omega,K6.out⟩
   ·have HC:=Aside.mk (HSy.out (by decide))
    clear HSy HSn
    go_enter Tryz.func198,Tryz.ntmps198
    go_wp2_with fail
    refine(rest_calls HRD.out (by omega) hs' HR.out).mono ?_
    rintro e w2 ⟨rfl,k1,hb⟩
    have K1:=Aside.mk k1
    have K2:=Aside.mk (HB1.out.trans (hb.mono (HB1.out.size)))
    clear k1 hb
    go_wp2_with fail
    refine(rest_calls K1.out (by omega) hs' HR.out).mono ?_
    rintro e w3 ⟨rfl,k1,hb⟩
    have hB3:B < w3.heap.size:=(Array.getElem?_eq_some_iff.1 k1.choose_spec.choose_spec.1).1
    have K3:=Aside.mk k1
    have K4:=Aside.mk (K2.out.trans (hb.mono (K2.out.size)))
    clear k1 hb
    go_wp2_with fail
    refine(wbyte K3.out hB3 (by omega) 60).mono ?_
    rintro e w4 ⟨rfl,k1,hb⟩
    have K5:=Aside.mk (HST.out _ k1)
    have K6:=Aside.mk ((K4.out.trans (hb.mono hB0)).setCell (p:=⟨B,1,none⟩) hB0 (.int .i64 ((at_+1+1:Nat):Int)))
    obtain⟨p4,v4,hb4,_⟩:=k1
    have d1:=cel hb4 1 (v:=.int .i64 ((at_:Int)+1)) rfl
    have g1:=frz hb4 1
    clear hb hb4
    go_wp2
    go_ret
    exact .inl ⟨_,_,HC.out,rfl,K5.out,by omega,by omega,K6.out⟩
   ·have HC:=Aside.mk (HSy.out (by decide))
    clear HSy HSn
    go_enter Tryz.func198,Tryz.ntmps198
    go_wp2_with fail
    refine(rest_calls HRD.out (by omega) hs' HR.out).mono ?_
    rintro e w2 ⟨rfl,k1,hb⟩
    have K1:=Aside.mk k1
    have K2:=Aside.mk (HB1.out.trans (hb.mono (HB1.out.size)))
    clear k1 hb
    go_wp2_with fail
    refine(rest_calls K1.out (by omega) hs' HR.out).mono ?_
    rintro e w3 ⟨rfl,k1,hb⟩
    have hB3:B < w3.heap.size:=(Array.getElem?_eq_some_iff.1 k1.choose_spec.choose_spec.1).1
    have K3:=Aside.mk k1
    have K4:=Aside.mk (K2.out.trans (hb.mono (K2.out.size)))
    clear k1 hb
    go_wp2_with fail
    refine(wbyte K3.out hB3 (by omega) 62).mono ?_
    rintro e w4 ⟨rfl,k1,hb⟩
    have K5:=Aside.mk (HST.out _ k1)
    have K6:=Aside.mk ((K4.out.trans (hb.mono hB0)).setCell (p:=⟨B,1,none⟩) hB0 (.int .i64 ((at_+1+1:Nat):Int)))
    obtain⟨p4,v4,hb4,_⟩:=k1
    have d1:=cel hb4 1 (v:=.int .i64 ((at_:Int)+1)) rfl
    have g1:=frz hb4 1
    clear hb hb4
    go_wp2
    go_ret
    exact .inl ⟨_,_,HC.out,rfl,K5.out,by omega,by omega,K6.out⟩
   ·have HC:=Aside.mk (HSy.out (by decide))
    clear HSy HSn
    go_enter Tryz.func198,Tryz.ntmps198
    go_wp2_with fail
    refine(rest_calls HRD.out (by omega) hs' HR.out).mono ?_
    rintro e w2 ⟨rfl,k1,hb⟩
    have K1:=Aside.mk k1
    have K2:=Aside.mk (HB1.out.trans (hb.mono (HB1.out.size)))
    clear k1 hb
    go_wp2_with fail
    refine(rest_calls K1.out (by omega) hs' HR.out).mono ?_
    rintro e w3 ⟨rfl,k1,hb⟩
    have hB3:B < w3.heap.size:=(Array.getElem?_eq_some_iff.1 k1.choose_spec.choose_spec.1).1
    have K3:=Aside.mk k1
    have K4:=Aside.mk (K2.out.trans (hb.mono (K2.out.size)))
    clear k1 hb
    go_wp2_with fail
    refine(wbyte K3.out hB3 (by omega) 92).mono ?_
    rintro e w4 ⟨rfl,k1,hb⟩
    have K5:=Aside.mk (HST.out _ k1)
    have K6:=Aside.mk ((K4.out.trans (hb.mono hB0)).setCell (p:=⟨B,1,none⟩) hB0 (.int .i64 ((at_+1+1:Nat):Int)))
    obtain⟨p4,v4,hb4,_⟩:=k1
    have d1:=cel hb4 1 (v:=.int .i64 ((at_:Int)+1)) rfl
    have g1:=frz hb4 1
    clear hb hb4
    go_wp2
    go_ret
    exact .inl ⟨_,_,HC.out,rfl,K5.out,by omega,by omega,K6.out⟩
   ·have HC:=Aside.mk (HSn.out hcls)
    have n32:((b.toNat:Int)==32)=false:=ne_of_list (by decide) hcls
    have n35:((b.toNat:Int)==35)=false:=ne_of_list (by decide) hcls
    have n61:((b.toNat:Int)==61)=false:=ne_of_list (by decide) hcls
    have n34:((b.toNat:Int)==34)=false:=ne_of_list (by decide) hcls
    have n43:((b.toNat:Int)==43)=false:=ne_of_list (by decide) hcls
    have n44:((b.toNat:Int)==44)=false:=ne_of_list (by decide) hcls
    have n59:((b.toNat:Int)==59)=false:=ne_of_list (by decide) hcls
    have n60:((b.toNat:Int)==60)=false:=ne_of_list (by decide) hcls
    have n62:((b.toNat:Int)==62)=false:=ne_of_list (by decide) hcls
    have n92:((b.toNat:Int)==92)=false:=ne_of_list (by decide) hcls
    clear hcls
    go_enter Tryz.func198,Tryz.ntmps198
    go_wp2_with fail
    refine(rest_calls HRD.out (by omega) hs' HR.out).mono ?_
    rintro e w2 ⟨rfl,k1,hb⟩
    have K1:=Aside.mk k1
    have K2:=Aside.mk (HB1.out.trans (hb.mono (HB1.out.size)))
    clear k1 hb
    go_wp2_with fail
    refine(rest_calls K1.out (by omega) hs' HR.out).mono ?_
    rintro e w3 ⟨rfl,k1,hb⟩
    have K3:=Aside.mk k1
    have K4:=Aside.mk (K2.out.trans (hb.mono (K2.out.size)))
    clear k1 hb
    go_wp2_with fail
    refine(digits_calls K3.out HG.out K4.out hB0 (by omega) hs hl).mono ?_
    intro e w9 hd
    have HD:=Aside.mk hd
    obtain⟨v9,rfl⟩:=dig_shape hd
    clear hd
    go_wp2
    go_ret
    exact sgn_of_dig HC.out HD.out
  ·have hre:r=⟨#[]⟩:=by
    have:r.data.toList=[]:=by rw[hrl,List.drop_eq_nil_of_le (by rw[Txt.size_list];omega)]
    rw[←Txt.mk_list r,this]
   have HS:=Aside.mk (show signAt true s (at_+1)=(digitAt s (at_+1)).map fun z=>(z,at_+1+2) by unfold signAt;rw[dif_neg hend])
   clear hrl hend
   subst hre
   go_enter Tryz.func198,Tryz.ntmps198
   go_wp2_with fail
   refine(rest_calls HRD.out (by omega) hs' HR.out).mono ?_
   rintro e w2 ⟨rfl,k1,hb⟩
   have K1:=Aside.mk k1
   have K2:=Aside.mk (HB1.out.trans (hb.mono (HB1.out.size)))
   clear k1 hb
   go_wp2_with fail
   refine(digits_calls K1.out HG.out K2.out hB0 (by omega) hs hl).mono ?_
   intro e w9 hd
   have HD:=Aside.mk hd
   obtain⟨v9,rfl⟩:=dig_shape hd
   clear hd
   go_wp2
   go_ret
   exact sgn_of_dig HS.out HD.out
end Go.Proofs.YtknelogmocedeaaGreatDoor.Esc
