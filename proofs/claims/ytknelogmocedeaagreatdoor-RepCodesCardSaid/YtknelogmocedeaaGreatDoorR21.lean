/- Several texts, one behind the other. utf.Right: a text's check (a loop over signs without a body), and what it answers. Conditions: the decoder's tables are laid; at most 10^9 bytes. esc's reader: read. Conditions: the shape of memory that each theorem names; at most 10^6 bytes. esc.ReadName, esc.ReadFilter: values of texts. Conditions: at most 10^6 bytes; the package-level variables of Env. esc.ReadName. Conditions: at most 10^6 bytes; the package-level variables of Env. dn.part: the part of a piece. Conditions: at most 10^6 bytes; the package-level variables of Env. dn: the walk over a text's pieces. Conditions: at most 10^9 bytes; the sign is no backslash. plain: texts cut at a sign; the bytes of a type; all or none. dn, plain: what a text says as a name. errors.As at an error type of the package Dn: a struct of one cell. No conditions beyond the shape of memory that each theorem names. errors.Is at an error of the package Dn that wraps the package's sentinel, against a sentinel: true just if it is that one (Go's text is walked). No conditions beyond the shape of memory that each theorem names. dn.told: the number of an error of the package dn. Conditions: the package's variable holds its sentinel. dn: names as values without memory; what is right, types, parts, errors told. Conditions: as in these contracts. The walk without memory: steps with numbers. Whatever program. -/
import Derived.Test.YtknelogmocedeaaGreatDoorR15
import Derived.Test.YtknelogmocedeaaGreatDoorR20
import Derived.Test.YtknelogmocedeaaGreatDoorR01
import Derived.Test.YtknelogmocedeaaGreatDoorR08
import Derived.Test.YtknelogmocedeaaGreatDoorR18
import Derived.Lib.IndexMore
import Derived.Test.YtknelogmocedeaaGreatDoorR16
import Derived.Test.YtknelogmocedeaaGreatDoorProg
import Derived.WalkKit
import Derived.KernelRfl
import Derived.LaidEql
import Derived.Stop.Asserts
import Derived.RowKitTokens
import Derived.Test.YtknelogmocedeaaGreatDoorR11
import Derived.Test.YtknelogmocedeaaGreatDoorR12
namespace Go.Proofs.YtknelogmocedeaaGreatDoor.Utf
open Go.RowKit Go.Lib
set_option linter.unusedVariables false
attribute [local go_sem] Oper.semAt_some
theorem signs_maker(s:ByteArray)(E:Addr)(w:World):
  Calls Tryz.prog 173 #[.agg #[.string s],.pointer (some E)] w fun e w'=>e=.returned (.func (.func 189) #[] #[.pointer (some ⟨w.heap.size,0,none⟩),.pointer (some ⟨w.heap.size+1,0,none⟩)])∧(w.alloc (.cells #[.string s] 247)).alloc (.cells #[.pointer (some E)] 294)=w':=by
 go_enter Tryz.func173,Tryz.ntmps173
 go_wp2
 go_ret
 exact⟨by simp,rfl⟩
structure Jt(rc:Rng.Rec)(D Tx Ex Eb:Nat)(s:ByteArray)(w W:World):Prop where
 d:W.heap[D]? =some (.deferred (some []))
 l:W.heap[D+1]? =some (rc.at .ready none)
 t:W.heap[Tx]? =some (.cells #[.string s] 247 (0,0))
 x:W.heap[Ex]? =some (.cells #[.pointer (some ⟨Eb,0,none⟩)] 294 (0,0))
 e:W.heap[Eb]? =some (.cells #[.nilIface] 98 (0,0))
 b:Below w.heap.size w W
 z:D+2≤W.heap.size
theorem Jt.step {rc:Rng.Rec}{D Tx Ex Eb:Nat}{s:ByteArray}{w W W':World}(h:Jt rc D Tx Ex Eb s w W)(ht:Tx < D)(hx:Ex < D)(he:Eb < D)(hw:w.heap.size≤D)(hb:Below (D+2) W W'):Jt rc D Tx Ex Eb s w W' where
 d:=(hb.block D (by omega)).trans h.d
 l:=(hb.block (D+1) (by omega)).trans h.l
 t:=(hb.block Tx (by omega)).trans h.t
 x:=(hb.block Ex (by omega)).trans h.x
 e:=(hb.block Eb (by omega)).trans h.e
 b:=h.b.trans (hb.mono (by omega))
 z:=Nat.le_trans h.z hb.size
def ChkRes(w:World)(s:ByteArray)(e:Ending)(w':World):Prop:=
 ((utfB s=true∧e=.returned .nilIface)∨(utfB s=false∧∃n:Int,e=.returned (.iface 318 (.agg #[.int .i64 n]))))∧Below w.heap.size w w'
set_option maxRecDepth 100000 in
set_option maxHeartbeats 4000000 in
theorem check_calls(s:ByteArray)(hs:s.size≤1000000000)(w:World)(hu:Lib.Utf8Tabs 15 16 w):
  Calls Tryz.prog 142 #[.agg #[.string s]] w (ChkRes w s):=by
 refine Rng.calls_of_marks (n:=1) Tryz.func142 rfl ?_
 simp only[Tryz.ntmps142,List.size_toArray,List.length_cons,List.length_nil,Nat.reduceAdd,Nat.reduceSub,Array.replicate_succ,Array.replicate_zero,List.push_toArray,List.append_toArray,List.nil_append,List.cons_append]
 go_wp2_with fail
 have hb2:Below w.heap.size w ((w.alloc (.cells #[.string s] 249)).alloc (.cells #[.nilIface] 98)):=below_then (below_new _ _) (below_new _ _)
 have h2e:((w.alloc (.cells #[.string s] 249)).alloc (.cells #[.nilIface] 98)).heap[w.heap.size+1]? =some (.cells #[.nilIface] 98 (0,0)):=by
  have:=World.alloc_heap_new (w.alloc (.cells #[.string s] 249)) (.cells #[.nilIface] 98)
  rwa [World.size_alloc] at this
 have h2s:((w.alloc (.cells #[.string s] 249)).alloc (.cells #[.nilIface] 98)).heap.size=w.heap.size+2:=by simp
 generalize ((w.alloc (.cells #[.string s] 249)).alloc (.cells #[.nilIface] 98))=W2 at hb2 h2e h2s ⊢
 have H2:=Aside.mk (And.intro hb2 (And.intro h2e h2s))
 clear hb2 h2e h2s
 refine(signs_maker s _ _).mono ?_
 rintro e w3 ⟨rfl,h3⟩
 have h3b:Below W2.heap.size W2 w3:=by rw[←h3];exact below_then (below_new _ _) (below_new _ _)
 have h3t:w3.heap[W2.heap.size]? =some (.cells #[.string s] 247 (0,0)):=by rw[←h3];exact blk_below (World.alloc_heap_new W2 _) (below_new _ _)
 have h3x:w3.heap[W2.heap.size+1]? =some (.cells #[.pointer (some ⟨w.heap.size+1,0,none⟩)] 294 (0,0)):=by
  rw[←h3]
  have:=World.alloc_heap_new (W2.alloc (.cells #[.string s] 247)) (.cells #[.pointer (some ⟨w.heap.size+1,0,none⟩)] 294)
  rwa [World.size_alloc] at this
 have h3s:w3.heap.size=W2.heap.size+2:=by rw[←h3];simp
 have H3:=Aside.mk (And.intro h3b (And.intro h3t (And.intro h3x h3s)))
 clear h3 h3b h3t h3x h3s
 go_wp2_with fail
 refine Rng.wp_range (n:=1) (gf:=189) (lb:=#[.pointer (some ⟨W2.heap.size,0,none⟩),.pointer (some ⟨W2.heap.size+1,0,none⟩)]) rfl (enters_of Tryz.func189 (by kernel_rfl) rfl) ?_
 intro fn
 generalize hrec:(Rng.Rec.mk fn _ _ _ _ _)=rc
 obtain⟨W1,hW1⟩:∃W1,W1=(w3.alloc (.deferred (some []))).alloc (rc.at .ready none):=⟨_,rfl⟩
 rw[←hW1]
 have hD:=World.alloc_heap_new w3 (.deferred (some []))
 have hL:=World.alloc_heap_new (w3.alloc (.deferred (some []))) (rc.at .ready none)
 have hD1:=blk_below hD (below_new _ (rc.at .ready none))
 have hbW:Below w3.heap.size w3 W1:=by rw[hW1];exact below_then (below_new _ _) (below_new _ _)
 have hWs:W1.heap.size=w3.heap.size+2:=by rw[hW1];simp
 rw[World.size_alloc] at hL
 rw[←hW1] at hL hD1
 clear hW1 hD
 obtain⟨hb2,h2e,h2s⟩:=H2.out
 obtain⟨h3b,h3t,h3x,h3s⟩:=H3.out
 have hb23:=below_then h3b hbW
 have hTD:W2.heap.size < w3.heap.size:=by omega
 have hXD:W2.heap.size+1 < w3.heap.size:=by omega
 have hED:w.heap.size+1 < w3.heap.size:=by omega
 have hwD:w.heap.size≤w3.heap.size:=by omega
 have hEw:w.heap.size≤w.heap.size+1:=by omega
 have hj0:Jt rc w3.heap.size W2.heap.size (W2.heap.size+1) (w.heap.size+1) s w W1:=⟨hD1,hL,blk_below h3t hbW,blk_below h3x hbW,blk_below h2e hb23,below_then hb2 hb23,by omega⟩
 have hfz:∀(W:World) (k:Nat) (cs:Array Value) (t:TypeId),W.heap[k]? =some (.cells cs t (0,0))→W.frozen? ⟨k,0,none⟩=false:=fun W k cs t h=>frz h 0
 clear h2s h3s hD1 hL
 refine(signs_iter (l0:=w3.heap.size+1) (Tx:=W2.heap.size) (Ex:=W2.heap.size+1) (K:=w3.heap.size+2) (E:=⟨w.heap.size+1,0,none⟩) hs (Jt rc w3.heap.size W2.heap.size (W2.heap.size+1) (w.heap.size+1) s w)
  (fun W h=>cel h.t 0 rfl) (fun W h=>cel h.x 0 rfl) (fun W h=>⟨_,cel h.e 0 rfl⟩) (fun W h=>hfz _ _ _ _ h.e) (fun W h=>tabs_below hu h.b) (fun W W' h hb=>h.step hTD hXD hED hwD hb) (fun W h=>h.z) ?_ W1 hj0 hWs).mono ?_
 ·intro k r W hJ
  have ea:=congrArg Rng.Rec.assign hrec
  have eb:=congrArg Rng.Rec.body hrec
  have ep:=congrArg Rng.Rec.params hrec
  have et:=congrArg Rng.Rec.tmps hrec
  dsimp only at ea eb ep et
  refine⟨rc.fn,_,_,_,run_yield (P:=Tryz.prog) hJ.l (by rw[←ep];rfl),Rng.round hJ.l ?_⟩
  rw[←ea,←eb,←ep,←et]
  clear ea eb ep et hrec
  gi_wp2
  refine⟨hJ.l,?_⟩
  have hLb:(W.putObj (w3.heap.size+1) (rc.at .busy none)).heap[w3.heap.size+1]? =some (rc.at .busy none):=World.putObj_heap_same (Array.getElem?_eq_some_iff.1 hJ.l).1
  have hu:=putObj_upd W (w3.heap.size+1) (rc.at .busy none)
  gi_wp2
  have hu2:=putObj_upd (W.putObj (w3.heap.size+1) (rc.at .busy none)) (w3.heap.size+1) (rc.at .ready none)
  refine⟨⟨hu2.blk (hu.blk hJ.d (by omega)) (by omega),World.putObj_heap_same (Array.getElem?_eq_some_iff.1 hLb).1,hu2.blk (hu.blk hJ.t (by omega)) (by omega),hu2.blk (hu.blk hJ.x (by omega)) (by omega),hu2.blk (hu.blk hJ.e (by omega)) (by omega),Upd.to_below (Upd.to_below hJ.b hu (by rintro k rfl;omega)) hu2 (by rintro k rfl;omega),by have:=hJ.z;simpa [World.putObj] using this⟩,?_⟩
  intro j hj
  simp only[World.putObj,Array.getElem?_setIfInBounds,Array.size_setIfInBounds]
  rw[if_neg (by omega),if_neg (by omega)]
 ·rintro e W5 ⟨⟨v5,rfl⟩,hJ5⟩
  have key:∃ev,W5.heap[w3.heap.size]? =some (.deferred (some []))∧W5.heap[w3.heap.size+1]? =some (rc.at .ready none)∧W5.heap[w.heap.size+1]? =some (.cells #[ev] 98 (0,0))∧Below w.heap.size w W5∧((utfB s=true∧ev=.nilIface)∨(utfB s=false∧∃n:Int,ev=.iface 318 (.agg #[.int .i64 n]))):=by
   rcases hJ5 with⟨hq,hj⟩ | ⟨hq,n,W4,hj,rfl⟩
   ·exact⟨_,hj.d,hj.l,hj.e,hj.b,.inl ⟨hq,rfl⟩⟩
   ·have hs4:=Upd.of_grown (S:=fun k=>k=w.heap.size+1) (set_grown W4 (w.heap.size+1) 0 (.iface 318 (.agg #[.int .i64 n]))) rfl
    exact⟨_,hs4.blk hj.d (by omega),hs4.blk hj.l (by omega),set_blk hj.e 0 _,hj.b.setCell (p:=⟨w.heap.size+1,0,none⟩) hEw _,.inr ⟨hq,n,rfl⟩⟩
  obtain⟨ev,a1,a2,a3,a5,a6⟩:=key
  refine⟨⟨_,rfl⟩,.ready,none,by simp,a2,?_⟩
  dsimp only
  have hu:=putObj_upd W5 (w3.heap.size+1) (rc.at .exhausted none)
  obtain⟨WB,hWB⟩:∃WB,WB=W5.putObj (w3.heap.size+1) (rc.at .exhausted none):=⟨_,rfl⟩
  rw[←hWB] at hu ⊢
  clear hWB hrec hJ5
  have A1:=Aside.mk (hu.blk a1 (by omega))
  have A5:=Aside.mk (Upd.to_below a5 hu (by rintro k rfl;omega))
  have c0:WB.cell? ⟨w.heap.size+1,0,none⟩=some ev:=cel (hu.blk a3 (by omega)) 0 rfl
  have A6:=Aside.mk a6
  clear a1 a2 a3 a5 a6 hu hbW hb23 hj0
  go_wp2
  refine⟨by simp,.inl ⟨_,_,rfl,run_takeDeferred A1.out,?_⟩⟩
  have hu8:=putObj_upd WB w3.heap.size (.deferred none)
  refine⟨ev,by simp[results,Tryz.f142,go_sem],?_,Upd.to_below A5.out hu8 (by rintro k rfl;omega)⟩
  rcases A6.out with⟨hq,rfl⟩ | ⟨hq,n,rfl⟩
  ·exact .inl ⟨hq,rfl⟩
  ·exact .inr ⟨hq,n,rfl⟩
set_option maxRecDepth 100000 in
theorem right_calls(s:ByteArray)(hs:s.size≤1000000000)(w:World)(hu:Lib.Utf8Tabs 15 16 w):
  Calls Tryz.prog 104 #[.string s] w fun e w'=>e=.returned (.bool (utfB s))∧Below w.heap.size w w':=by
 have HC:=Aside.mk (check_calls s hs w hu)
 clear hu
 go_enter Tryz.func104,Tryz.ntmps104
 go_wp2_with fail
 refine HC.out.mono ?_
 rintro e w1 ⟨hc,hb⟩
 rcases hc with⟨hq,rfl⟩ | ⟨hq,n,rfl⟩
 all_goals
  have HQ:=Aside.mk hq
  clear hq
  go_wp2
  go_ret
  exact⟨by rw[HQ.out];rfl,hb⟩
end Go.Proofs.YtknelogmocedeaaGreatDoor.Utf
namespace Go.Proofs.YtknelogmocedeaaGreatDoor.Esc
open Go.RowKit
set_option linter.unusedVariables false
def RdRes(w0:World)(B:Nat)(s:ByteArray)(nm:Bool)(e:Ending)(w':World):Prop:=
 (∃l a,readL nm s=some l∧e=.returned .nilIface∧RD w' B s a nm l∧l.length≤s.size∧Below w0.heap.size w0 w')∨(readL nm s=none∧(∃n:Int,e=.returned (.iface 331 (.agg #[.int .i64 n])))∧Below w0.heap.size w0 w')
theorem contains0(s:ByteArray)(w:World):Calls Tryz.prog 197 #[.string s,.int .i32 0] w fun e w'=>e=.returned (.bool (s.data.toList.contains 0))∧Below w.heap.size w w':=by
 refine(Shelf.strings_ContainsRune_ascii s 0 w (by decide) (by decide)).mono ?_
 rintro e w' ⟨rfl,rfl⟩
 exact⟨by rw[Txt.index_mem];rfl,Below.refl _ _⟩
set_option maxRecDepth 100000 in
set_option maxHeartbeats 8000000 in
theorem read_calls{w0 w:World}{B:Nat}{s:ByteArray}{nm:Bool}{p:Nat→Addr}(h:RD w B s 0 nm [])(hE:Env w0 p)(h0:Below w0.heap.size w0 w)(hB0:w0.heap.size≤B)(hs:s.size≤100000000):
  Calls Tryz.prog 184 #[.pointer (some ⟨B,0,none⟩)] w (RdRes w0 B s nm):=by
 have HR:=Aside.mk h
 have H0:=Aside.mk h0
 have HE:=Aside.mk hE
 obtain⟨p',v,hb,_⟩:=h
 have c0:=cel hb 0 (v:=.string s) rfl
 have hB:B < w.heap.size:=(Array.getElem?_eq_some_iff.1 hb).1
 clear hb h0 hE
 go_enter Tryz.func184,Tryz.ntmps184
 go_wp2_with fail
 refine(Utf.right_calls s (by omega) w (HE.out.below H0.out).ut).mono ?_
 rintro e w1 ⟨rfl,hb1⟩
 have HR1:=Aside.mk (HR.out.below hb1)
 have HB1:=Aside.mk (below_then H0.out hb1)
 have c1:=cell_below c0 hb1
 clear hb1 c0
 cases hu:Utf.utfB s with
 | false=>
  have HL:=Aside.mk (show readL nm s=none by unfold readL;rw[hu];rfl)
  clear hu
  go_wp2
  go_ret
  exact .inr ⟨HL.out,⟨_,rfl⟩,HB1.out⟩
 | true=>
  have HU:=Aside.mk hu
  clear hu
  go_wp2_with fail
  refine(contains0 s w1).mono ?_
  rintro e w2 ⟨rfl,hb2⟩
  have HR2:=Aside.mk (HR1.out.below hb2)
  have HB2:=Aside.mk (below_then HB1.out hb2)
  clear hb2 c1
  cases hz:s.data.toList.contains 0 with
  | true=>
   have HL:=Aside.mk (show readL nm s=none by unfold readL;rw[hz,HU.out];rfl)
   clear hz
   go_wp2
   go_ret
   exact .inr ⟨HL.out,⟨_,rfl⟩,HB2.out⟩
  | false=>
   have HL:=Aside.mk (show readL nm s=readR nm s s.size 0 [] by unfold readL;rw[hz,HU.out];rfl)
   clear hz
   go_wp2_with fail
   go_loopg [] s.size (fun gk wr=>Aside (∃k l,RD wr B s k nm l∧Below w0.heap.size w0 wr∧k≤s.size∧s.size≤k+gk∧readR nm s gk k l=readL nm s∧l.length≤k))
   case atStart=>exact⟨⟨0,[],HR2.out,HB2.out,by omega,by omega,HL.out.symm,by simp⟩⟩
   case round=>
    obtain⟨k,l,hr,hbw,hks,hgk,hu,hl⟩:=hrel.out
    clear hrel HL
    have HRw:=Aside.mk hr
    have HBw:=Aside.mk hbw
    have HUw:=Aside.mk hu
    obtain⟨p4,v4,hb4,_⟩:=hr
    have d0:=cel hb4 0 (v:=.string s) rfl
    have d1:=cel hb4 1 (v:=.int .i64 k) rfl
    have hB4:B < wr.heap.size:=(Array.getElem?_eq_some_iff.1 hb4).1
    clear hb4 hbw hu
    by_cases hk:k < s.size
    ·obtain⟨m,rfl⟩:∃m,gk=m+1:=⟨gk - 1,by omega⟩
     have hki:(k:Int) < (s.size:Int):=by omega
     have hk0:(0:Int)≤(k:Int):=by omega
     have HST:=Aside.mk (show readL nm s=(if s[k]==92 then(match signAt nm s (k+1) with
       | some (z,a)=>readR nm s m a (l++[z])
       | none=>none)
      else if barB nm s.size k s[k] then none else readR nm s m (k+1) (l++[s[k]])) by rw[←HUw.out];simp only[readR];rw[dif_pos hk];try rfl)
     have hidx:∀W:World,(Instr.index 9 (.string s) (.int .i64 (k:Int))).run Tryz.prog W=.ok (.int .u8 s[k].toNat) W:=by
      intro W;go_simp
     generalize s[k]=b at HST hidx
     go_wp2_with fail
     go_quiet (fail)
     generalize hW2:wr.drewN _=W2
     have hb2:Below wr.heap.size wr W2:=by rw[←hW2];exact below_drewN _ _
     have HR3:=Aside.mk (HRw.out.below hb2)
     have HB3:=Aside.mk (below_then HBw.out hb2)
     have e0:=cell_below d0 hb2
     have e1:=cell_below d1 hb2
     have hB5:B < W2.heap.size:=Nat.lt_of_lt_of_le hB4 hb2.size
     clear hW2 hb2 d0 d1 hB4
     go_wp2_with fail
     go_quiet (fail)
     generalize hW3:W2.drewN _=W3
     have hb3:Below W2.heap.size W2 W3:=by rw[←hW3];exact below_drewN _ _
     have HR4:=Aside.mk (HR3.out.below hb3)
     have HB4:=Aside.mk (below_then HB3.out hb3)
     have hB6:B < W3.heap.size:=Nat.lt_of_lt_of_le hB5 hb3.size
     have f1:=cell_below e1 hb3
     clear hW3 hb3 e0 e1 hB5 hidx
     by_cases h92:b=92
     ·subst h92
      have HS2:=Aside.mk (show readL nm s=(match signAt nm s (k+1) with
       | some (z,a)=>readR nm s m a (l++[z])
       | none=>none) from HST.out)
      clear HST f1
      go_wp2_with fail
      refine(signed_calls HR4.out HE.out.gl HB4.out hB0 hk hs (by omega)).mono ?_
      rintro e w9 (⟨z,a,h1,rfl,h3,h4,h5,h6⟩ | ⟨h1,⟨n,rfl⟩,h3⟩)
      ·have HS3:=Aside.mk (show readR nm s m a (l++[z])=readL nm s by rw[HS2.out,h1])
       have HR9:=Aside.mk h3
       have HB9:=Aside.mk h6
       clear h1 h3 h6 HS2
       go_wp2
       go_roundg m
       case measure=>omega
       case rel=>exact⟨⟨a,l++[z],HR9.out,HB9.out,h5,by omega,HS3.out,by simp;omega⟩⟩
      ·have HS3:=Aside.mk (show readL nm s=none by rw[HS2.out,h1])
       have HB9:=Aside.mk h3
       clear h1 h3 HS2
       go_wp2
       go_ret
       exact .inr ⟨HS3.out,⟨n,rfl⟩,HB9.out⟩
     ·have hbi:((b.toNat:Int)==92)=false:=by
       rw[beq_eq_false_iff_ne]
       intro h;apply h92
       rw[←UInt8.toNat_inj]
       have:(92:UInt8).toNat=92:=rfl
       omega
      have HS2:=Aside.mk (show readL nm s=(if barB nm s.size k b then none else readR nm s m (k+1) (l++[b])) by
       rw[HST.out,if_neg (by simpa using h92)])
      clear HST h92
      go_wp2_with fail
      refine(barred_calls HR4.out hk hs b).mono ?_
      rintro e w4 ⟨rfl,hb4⟩
      have HR5:=Aside.mk (HR4.out.below hb4)
      have HB5:=Aside.mk (below_then HB4.out hb4)
      have g1:=cell_below f1 hb4
      have hB7:B < w4.heap.size:=Nat.lt_of_lt_of_le hB6 hb4.size
      clear hb4 f1 hB6 hbi
      cases hbar:barB nm s.size k b with
      | true=>
       have HS3:=Aside.mk (show readL nm s=none by rw[HS2.out,hbar];rfl)
       clear hbar HS2
       go_wp2
       go_ret
       exact .inr ⟨HS3.out,⟨_,rfl⟩,HB5.out⟩
      | false=>
       have HS3:=Aside.mk (show readR nm s m (k+1) (l++[b])=readL nm s by rw[HS2.out,hbar];rfl)
       clear hbar HS2 g1
       go_wp2_with fail
       refine(wbyte HR5.out hB7 (by omega) b).mono ?_
       rintro e w5 ⟨rfl,hr5,hb5⟩
       have HR6:=Aside.mk (RD.setAt hr5 (k+1))
       have HB6:=Aside.mk ((HB5.out.trans (hb5.mono hB0)).setCell (p:=⟨B,1,none⟩) hB0 (.int .i64 ((k+1:Nat):Int)))
       rw[show((k+1:Nat):Int)=(k:Int)+1 from rfl] at HR6 HB6
       obtain⟨p6,v6,hb6,_⟩:=hr5
       have i1:=cel hb6 1 (v:=.int .i64 k) rfl
       have j1:=frz hb6 1
       clear hb5 hb6 hB7
       go_wp2
       go_roundg m
       case measure=>omega
       case rel=>exact⟨⟨k+1,l++[b],HR6.out,HB6.out,by omega,by omega,HS3.out,by simp;omega⟩⟩
    ·have hk2:(s.size:Int)≤(k:Int):=by omega
     have HS3:=Aside.mk (show readL nm s=some l by
      rw[←HUw.out]
      cases gk with
      | zero=>rfl
      | succ f=>simp only[readR];rw[dif_neg hk])
     clear hk
     go_wp2_with fail
     go_quiet (fail)
     generalize hW2:wr.drewN _=W2
     have hb2:Below wr.heap.size wr W2:=by rw[←hW2];exact below_drewN _ _
     have HR3:=Aside.mk (HRw.out.below hb2)
     have HB3:=Aside.mk (below_then HBw.out hb2)
     clear hW2 hb2 d0 d1 hB4
     go_wp2
     go_ret
     exact .inl ⟨l,k,HS3.out,rfl,HR3.out,by omega,HB3.out⟩
end Go.Proofs.YtknelogmocedeaaGreatDoor.Esc
namespace Go.Proofs.YtknelogmocedeaaGreatDoor.Esc
open Go.RowKit
set_option linter.unusedVariables false
def readT(nm:Bool)(s:ByteArray):List UInt8:=(readL nm s).getD []
def readC(nm:Bool)(s:ByteArray):Int:=if(readL nm s).isSome then 0 else 60
set_option maxRecDepth 100000 in
set_option maxHeartbeats 4000000 in
theorem read_fn(s:ByteArray)(nm:Bool)(hs:s.size≤100000000)(w:World)(p:Nat→Addr)(hE:Env w p):
  Calls Tryz.prog 158 #[.string s,.bool nm] w fun e w'=>e=.returned (.tuple #[.string ⟨(readT nm s).toArray⟩,.int .i64 (readC nm s)])∧Below w.heap.size w w':=by
 have HE:=Aside.mk hE
 clear hE
 have hb0:=below_new w (.cells #[.string s,.int .i64 0,.bool nm,.pointer none,.slice none 0 0] 311)
 have hr0:RD (w.alloc (.cells #[.string s,.int .i64 0,.bool nm,.pointer none,.slice none 0 0] 311)) w.heap.size s 0 nm []:=
  ⟨_,_,World.alloc_heap_new w _,.inl rfl,⟨by simp[Lib.byteCells],.inl ⟨rfl,rfl⟩⟩,fun _=>rfl⟩
 have HC:=Aside.mk (read_calls hr0 HE.out hb0 (Nat.le_refl _) hs)
 clear hb0 hr0
 go_enter Tryz.func158,Tryz.ntmps158
 go_wp2_with fail
 refine HC.out.mono ?_
 rintro e w1 (⟨l,a,h1,rfl,h3,h4,h5⟩ | ⟨h1,⟨n,rfl⟩,h3⟩)
 ·have HT:=Aside.mk (show readT nm s=l by unfold readT;rw[h1];rfl)
  have HD:=Aside.mk (show readC nm s=0 by unfold readC;rw[h1];rfl)
  have HR:=Aside.mk h3
  have HB:=Aside.mk h5
  clear h1 h3 h5
  go_wp2_with fail
  refine(text_of HR.out).mono ?_
  rintro e w2 ⟨rfl,hb⟩
  have HB2:=Aside.mk (HB.out.trans hb)
  clear hb
  go_wp2
  go_ret2
  exact⟨by rw[HT.out,HD.out];rfl,HB2.out⟩
 ·have HT:=Aside.mk (show readT nm s=[] by unfold readT;rw[h1];rfl)
  have HD:=Aside.mk (show readC nm s=60 by unfold readC;rw[h1];rfl)
  have HB:=Aside.mk h3
  clear h1 h3
  go_wp2_with fail
  refine(ToldEsc.told_wrong (.int .i64 n) rfl w1 p (HE.out.gl.below HB.out)).mono ?_
  rintro e w2 ⟨rfl,hb⟩
  have HB2:=Aside.mk (below_then HB.out hb)
  clear hb
  go_wp2
  go_ret2
  exact⟨by rw[HT.out,HD.out];rfl,HB2.out⟩
end Go.Proofs.YtknelogmocedeaaGreatDoor.Esc
namespace Go.Proofs.YtknelogmocedeaaGreatDoor.Esc
open Go.RowKit Go.Lib
set_option linter.unusedVariables false
set_option maxRecDepth 100000 in
set_option maxHeartbeats 4000000 in
theorem readName_calls(s:ByteArray)(hs:s.size≤100000000)(w:World)(p:Nat→Addr)(hE:Env w p):
  Calls Tryz.prog 126 #[.string s] w fun e w'=>e=.returned (.tuple #[.string ⟨(readT true s).toArray⟩,.int .i64 (readC true s)])∧Below w.heap.size w w':=by
 have HC:=Aside.mk (read_fn s true hs w p hE)
 clear hE
 go_enter Tryz.func126,Tryz.ntmps126
 go_wp2_with fail
 refine HC.out.mono ?_
 rintro e w1 ⟨rfl,hb⟩
 have HB:=Aside.mk hb
 clear hb
 go_wp2
 go_ret2
 exact⟨rfl,HB.out⟩
end Go.Proofs.YtknelogmocedeaaGreatDoor.Esc
namespace Go.Proofs.YtknelogmocedeaaGreatDoor.Dn
open Go.RowKit
set_option linter.unusedVariables false
def partA(s:ByteArray):Option Ava:=
 if(Lib.cut s.data.toList [61]).2.2 then(Esc.readL true ⟨(Lib.cut s.data.toList [61]).2.1.toArray⟩).map fun v=>(⟨(Lib.cut s.data.toList [61]).1.toArray⟩,⟨v.toArray⟩) else none
theorem cut_le(l sep:List UInt8):(Lib.cut l sep).2.1.length≤l.length:=by
 unfold Lib.cut
 split
 ·simp only[List.length_drop];omega
 ·simp
theorem part_out(W:World)(k:Nat)(x y:ByteArray)(hb:W.heap[k]? =some (.cells #[.string x,.string y] 163 (0,0)))(tmps:Array Value)(h2:tmps.getD 2 undef=.pointer (some ⟨k,0,none⟩)):
  (results Tryz.f88 tmps).run Tryz.prog W=.ok (.tuple #[.agg #[.string x,.string y],tmps.getD 3 undef]) W:=by
 have c0:=cel hb 0 (v:=.string x) rfl
 have c1:=cel hb 1 (v:=.string y) rfl
 have h3:tmps[2]?.getD undef=.pointer (some ⟨k,0,none⟩):=by rw[←h2];simp
 simp[results,Tryz.f88,go_sem,h3,c0,c1]
def PartRes(w:World)(s:ByteArray)(e:Ending)(w':World):Prop:=
 ((∃a,partA s=some a∧e=.returned (.tuple #[.agg #[.string a.1,.string a.2],.nilIface]))∨(partA s=none∧e=.returned (.tuple #[.agg #[.string ⟨#[]⟩,.string ⟨#[]⟩],.iface 168 (.agg #[.string s])])))∧Below w.heap.size w w'
set_option maxRecDepth 100000 in
set_option maxHeartbeats 4000000 in
theorem part_calls(s:ByteArray)(hs:s.size≤1000000)(w:World)(p:Nat→Addr)(hE:Env w p):
  Calls Tryz.prog 88 #[.string s] w (PartRes w s):=by
 obtain⟨m,hm⟩:=hE.ml
 have HE:=Aside.mk hE
 clear hE
 obtain⟨W0,hW0⟩:∃W0,w.alloc (.cells #[.string ⟨#[]⟩,.string ⟨#[]⟩] 163)=W0:=⟨_,rfl⟩
 have hb0:Below w.heap.size w W0:=by rw[←hW0];exact below_new _ _
 have hh0:W0.heap[w.heap.size]? =some (.cells #[.string ⟨#[]⟩,.string ⟨#[]⟩] 163 (0,0)):=by rw[←hW0];exact World.alloc_heap_new _ _
 have HB0:=Aside.mk hb0
 have HH0:=Aside.mk hh0
 have HC:=Aside.mk (Shelf.strings_Cut s ⟨#[61]⟩ m W0 (by omega) (cell_below hm hb0))
 clear hb0 hh0 hm
 have HLE:=Aside.mk (cut_le s.data.toList [61])
 have HPA:=Aside.mk (show partA s=if(Lib.cut s.data.toList [61]).2.2 then(Esc.readL true ⟨(Lib.cut s.data.toList [61]).2.1.toArray⟩).map fun v=>(⟨(Lib.cut s.data.toList [61]).1.toArray⟩,⟨v.toArray⟩) else none from rfl)
 have HSL:=Aside.mk (Txt.size_list s)
 go_enter Tryz.func88,Tryz.ntmps88
 go_wp2_with fail
 clear hW0
 refine HC.out.mono ?_
 rintro e w1 ⟨rfl,n,rfl⟩
 generalize Lib.cut s.data.toList [61]=q at HLE HPA
 obtain⟨nm,vl,ok⟩:=q
 have HB1:=Aside.mk (below_then HB0.out (below_drewN W0 n))
 have HH1:=Aside.mk (blk_below HH0.out (below_drewN W0 n))
 generalize W0.drewN n=W1 at HB1 HH1
 clear HC
 go_wp2_with fail
 refine(Esc.readName_calls ⟨vl.toArray⟩ (by rw[Txt.size_mk];have:=HLE.out;have:=HSL.out;omega) W1 p (HE.out.below HB1.out)).mono ?_
 rintro e w2 ⟨rfl,hb⟩
 have HB2:=Aside.mk (below_then HB1.out hb)
 have HH2:=Aside.mk (blk_below HH1.out hb)
 clear hb
 have c0:=cel HH2.out 0 (v:=.string ⟨#[]⟩) rfl
 have c1:=cel HH2.out 1 (v:=.string ⟨#[]⟩) rfl
 have f0:=frz HH2.out 0
 have f1:=frz HH2.out 1
 cases ok with
 | false=>
  have HP:=Aside.mk (show partA s=none from HPA.out)
  clear HPA
  go_wp2
  refine bodyPost_ret (part_out _ w.heap.size _ _ (set_blk (set_blk HH2.out 0 _) 1 _) _ rfl) rfl ?_
  exact⟨.inr ⟨HP.out,rfl⟩,(HB2.out.setCell (p:=⟨w.heap.size,0,none⟩) (Nat.le_refl _) _).setCell (p:=⟨w.heap.size,1,none⟩) (Nat.le_refl _) _⟩
 | true=>
  cases hr:Esc.readL true ⟨vl.toArray⟩ with
  | none=>
   have HP:=Aside.mk (show partA s=none by rw[HPA.out,hr];rfl)
   have HT:=Aside.mk (show Esc.readT true ⟨vl.toArray⟩=[] by unfold Esc.readT;rw[hr];rfl)
   have hC:Esc.readC true ⟨vl.toArray⟩=60:=by unfold Esc.readC;rw[hr];rfl
   rw[hC]
   clear HPA hr hC
   go_wp2
   refine bodyPost_ret (part_out _ w.heap.size _ _ (set_blk (set_blk HH2.out 0 _) 1 _) _ rfl) rfl ?_
   exact⟨.inr ⟨HP.out,rfl⟩,(HB2.out.setCell (p:=⟨w.heap.size,0,none⟩) (Nat.le_refl _) _).setCell (p:=⟨w.heap.size,1,none⟩) (Nat.le_refl _) _⟩
  | some v=>
   have HP:=Aside.mk (show partA s=some (⟨nm.toArray⟩,⟨v.toArray⟩) by rw[HPA.out,hr];rfl)
   have hT:Esc.readT true ⟨vl.toArray⟩=v:=by unfold Esc.readT;rw[hr];rfl
   have hC:Esc.readC true ⟨vl.toArray⟩=0:=by unfold Esc.readC;rw[hr];rfl
   rw[hC,hT]
   clear HPA hr hC hT
   go_wp2
   refine bodyPost_ret (part_out _ w.heap.size _ _ (set_blk (set_blk HH2.out 0 _) 1 _) _ rfl) rfl ?_
   exact⟨.inl ⟨_,HP.out,rfl⟩,(HB2.out.setCell (p:=⟨w.heap.size,0,none⟩) (Nat.le_refl _) _).setCell (p:=⟨w.heap.size,1,none⟩) (Nat.le_refl _) _⟩
end Go.Proofs.YtknelogmocedeaaGreatDoor.Dn
namespace Go.Proofs.YtknelogmocedeaaGreatDoor.Dn
open Go.RowKit
set_option linter.unusedVariables false
def piecesF(c:UInt8):Nat→List UInt8→List (List UInt8)
 | 0,l=>[l]
 | f+1,l=>if endL c l=l.length then [l] else l.take (endL c l)::piecesF c f (l.drop (endL c l+1))
def piecesL(c:UInt8)(l:List UInt8):List (List UInt8):=piecesF c (l.length+1) l
attribute [local go_sem] Oper.semAt_some
set_option maxHeartbeats 4000000 in
theorem pieces_iter{l0 Cx Co:Nat}{s:ByteArray}{c:UInt8}(hs:s.size≤100000000)(hc:c≠92)(J:List (List UInt8)→World→Prop)(Stop:World→Prop)
  (hJx:∀pre W,J pre W→W.cell? ⟨Cx,Co,none⟩=some (.string s)∧W.cell? ⟨Cx,Co+1,none⟩=some (.int .u8 c.toNat)) (hJb:∀pre W W',J pre W→Below W.heap.size W W'→J pre W')
  (hY:∀pre (y:ByteArray) rest W,piecesL c s.data.toList=pre++y.data.toList::rest→y.size≤s.size→J pre W→∃fn tmps assign body,(Instr.yield l0 #[.string y]).run Tryz.prog W=.ok (.round l0 fn tmps assign body) W∧RoundIn Fence.wide 0 Tryz.prog l0 fn tmps assign body W (fun e W'=>(e=.returned (.bool true)∧J (pre++[y.data.toList]) W')∨(e=.returned (.bool false)∧Stop W')))
  (W:World) (h0:J [] W):
  Calls Tryz.prog 123 #[.func (.yield l0) #[] #[],.pointer (some ⟨Cx,Co,none⟩)] W fun e W'=>(∃v,e=.returned v)∧(J (piecesL c s.data.toList) W'∨Stop W'):=by
 have HSL:=Aside.mk (Txt.size_list s)
 go_enter Tryz.func123,Tryz.ntmps123
 go_wp2
 go_step3
 go_wp2
 go_step3
 go_wp2
 go_loopg [3] (s.size+1) (fun gk v3 wr=>∃a:Nat,v3=.int .i64 a∧Aside (∃pre,a≤s.size∧s.size+1≤a+gk∧J pre wr∧piecesL c s.data.toList=pre++piecesF c gk (s.data.toList.drop a)))
 case atStart=>exact⟨0,rfl,⟨[],by omega,by omega,h0,by unfold piecesL;rw[HSL.out];rfl⟩⟩
 case round=>
  obtain⟨a,rfl,HI⟩:=hrel
  obtain⟨pre,i1,i2,i3,i4⟩:=HI.out
  clear HI
  obtain⟨m,rfl⟩:∃m,gk=m+1:=⟨gk - 1,by omega⟩
  obtain⟨c0,c1⟩:=hJx _ _ i3
  have HJ:=Aside.mk i3
  clear i3
  obtain⟨n,hn⟩:∃n,endL c (s.data.toList.drop a)=n:=⟨_,rfl⟩
  have hnl:n≤s.size - a:=by
   have:=endL_le c (s.data.toList.drop a)
   rw[List.length_drop,HSL.out,hn] at this
   exact this
  obtain⟨t,ht⟩:∃t,a+n=t:=⟨_,rfl⟩
  have htS:t≤s.size:=by omega
  have HEN:=Aside.mk (show Calls Tryz.prog 124 #[.agg #[.string s],.int .i64 a,.int .u8 c.toNat] wr fun e w'=>e=.returned (.int .i64 (t:Int))∧Below wr.heap.size wr w' by
   have:=end_calls s (by omega) a i1 c hc wr
   rwa [hn,ht] at this)
  have hex:(s.extract a t).data.toList=(s.data.toList.drop a).take n:=by
   rw[Lib.extract_data,show t - a=n by omega]
  have hsz:(s.extract a t).size≤s.size:=by rw[ByteArray.size_extract];omega
  have HP:=Aside.mk (show piecesL c s.data.toList=pre++(s.extract a t).data.toList::(if t=s.size then [] else piecesF c m (s.data.toList.drop (t+1))) by
   rw[i4,piecesF,hn,hex,List.length_drop,HSL.out]
   by_cases ht2:t=s.size
   ·rw[if_pos (by omega),if_pos ht2,List.take_of_length_le (by rw[List.length_drop,HSL.out];omega)]
   ·rw[if_neg (by omega),if_neg ht2,List.drop_drop,show a+(n+1)=t+1 by omega])
  have h0a:(0:Int)≤(a:Int):=by omega
  have hat:(a:Int)≤(t:Int):=by omega
  have hts:(t:Int)≤(s.size:Int):=by omega
  have HSZ:=Aside.mk hsz
  clear i4 hn hex hnl hsz
  obtain⟨y,hy⟩:∃y,s.extract a t=y:=⟨_,rfl⟩
  rw[hy] at HP HSZ
  refine(wpIn_wide (n:=1)).1 ?_
  gi_wp2_with fail
  refine⟨trivial,callsIn_wide.2 (HEN.out.mono ?_)⟩
  rintro e w2 ⟨rfl,hb⟩
  have HJ2:=Aside.mk (hJb _ _ _ HJ.out hb)
  obtain⟨d0,d1⟩:=hJx _ _ HJ2.out
  obtain⟨fn,tm,asg,bo,hyy,hR⟩:=hY _ y _ w2 HP.out HSZ.out HJ2.out
  have HRR:=Aside.mk hR
  clear hR hb c0 c1
  gi_wp2_with fail
  refine HRR.out.mono ?_
  rintro e w3 (⟨rfl,hj3⟩ | ⟨rfl,hst⟩)
  ·have HJ3:=Aside.mk hj3
   obtain⟨e0,e1⟩:=hJx _ _ HJ3.out
   clear hj3 hyy d0 d1
   by_cases htt:t=s.size
   ·have hti:((t:Int)==(s.size:Int))=true:=by simp[htt]
    have HF:=Aside.mk (show J (piecesL c s.data.toList) w3 by rw[HP.out,if_pos htt];exact HJ3.out)
    clear htt
    gi_wp2
    rw[Exit.noGoto_normal]
    go_end0
    exact⟨⟨_,rfl⟩,.inl HF.out⟩
   ·have hti:((t:Int)==(s.size:Int))=false:=by rw[beq_eq_false_iff_ne];omega
    have HF:=Aside.mk (show piecesL c s.data.toList=(pre++[y.data.toList])++piecesF c m (s.data.toList.drop (t+1)) by rw[HP.out,if_neg htt];simp)
    have HLT:=Aside.mk (show t+1≤s.size by omega)
    clear htt
    gi_wp2
    go_roundg m
    case measure=>omega
    case rel=>exact⟨t+1,by go_num,⟨pre++[y.data.toList],HLT.out,by omega,HJ3.out,HF.out⟩⟩
  ·have HS:=Aside.mk hst
   clear hst hyy d0 d1
   gi_wp2
   rw[Exit.noGoto_normal]
   go_end0
   exact⟨⟨_,rfl⟩,.inr HS.out⟩
end Go.Proofs.YtknelogmocedeaaGreatDoor.Dn
namespace Go.Proofs.YtknelogmocedeaaGreatDoor.Dn
open Go.Lib
set_option linter.unusedVariables false
def allM{α β:Type}(f:α→Option β):List α→Option (List β)
 | []=>some []
 | a::t=>match f a with
  | none=>none
  | some b=>(allM f t).map (b:: ·)
end Go.Proofs.YtknelogmocedeaaGreatDoor.Dn
namespace Go.Proofs.YtknelogmocedeaaGreatDoor.Dn
set_option linter.unusedVariables false
def rdnOf(p:List UInt8):Option Rdn:=allM (fun q=>partA ⟨q.toArray⟩) (piecesL 43 p)
def nameOf(s:List UInt8):Option Name:=allM rdnOf (piecesL 44 s)
def parsedL(s:List UInt8):Option Name:=if s=[] then some [] else(nameOf s).bind fun d=>if rightB d then some d else none
def mkB(l:List UInt8):ByteArray:=⟨l.toArray⟩
theorem mkB_list(l:List UInt8):(mkB l).data.toList=l:=by simp[mkB]
end Go.Proofs.YtknelogmocedeaaGreatDoor.Dn
namespace Go.Proofs.YtknelogmocedeaaGreatDoor.AsDn
open Go.RowKit Go.Extern.Stop Go.Stop Go.Extern AsG
theorem ok:Ok 168 169:=by
 refine⟨?_,?_,?_,?_,?_,?_,?_,?_,?_,?_,?_,?_,?_,?_,?_,Tryz.underlying169,?_⟩
 ·intros;kernel_rfl
 ·intros;kernel_rfl
 ·intros;kernel_rfl
 ·intros;kernel_rfl
 ·intros;kernel_rfl
 ·intros;kernel_rfl
 ·intros;kernel_rfl
 ·intros;kernel_rfl
 ·intros;kernel_rfl
 ·intros;kernel_rfl
 ·intros;kernel_rfl
 ·intros;kernel_rfl
 ·intros;kernel_rfl
 ·intros;kernel_rfl
 ·intros;kernel_rfl
 ·intro g b old0 x fr V hx hb ht
  have hl:=run_loadVar_row (P:=Tryz.prog) V b 168 168 #[x] fr _ hb Tryz.underlying168 rfl (by kernel_rfl)
  have hs:=run_storeVar_row (P:=Tryz.prog) V g 168 168 #[old0] #[x] ht (by kernel_rfl) rfl (by simp[hx])
  have p1:∀(a:Addr) (w:World),(ReflectliteValue.parts (.agg #[.pointer (some ⟨19,168,none⟩),.pointer (some a),.int .u64 409])).run Tryz.prog w=.ok (some (168,a,409)) w:=by intros;kernel_rfl
  have p2:∀(a:Addr) (w:World),(ReflectliteValue.parts (.agg #[.pointer (some ⟨19,168,none⟩),.pointer (some a),.int .u64 153])).run Tryz.prog w=.ok (some (168,a,153)) w:=by intros;kernel_rfl
  have p3:∀w:World,(Rtype.directlyAssignable 168 168).run Tryz.prog w=.ok true w:=by intros;kernel_rfl
  rw[rls]
  simp only[Sem.run_bind,p1,p2,Result.andThen]
  simp[ReflectliteValue.flagAddr,hl,hs,Result.andThen,p3]
theorem as_hit(g:Nat)(old0 x:Value)(w:World)(hx:x.oneCell'=true)(hg:w.cell? ⟨7,0,none⟩=some (.iface 263 (.agg #[.pointer (some ⟨19,98,none⟩)])))(ht:w.heap[g]? =some (.cells #[old0] 168 (0,0))):
  Calls Tryz.prog 85 #[.iface 168 (.agg #[x]),.iface 169 (.pointer (some ⟨g,0,none⟩))] w fun ev w'=>ev=.returned (.bool true)∧Below g w w'∧w'.heap[g]? =some (.cells #[x] 168 (0,0)):=AsG.as_hit ok g old0 x w hx hg ht
theorem as_nil(g:Nat)(old0:Value)(w:World)(ht:w.heap[g]? =some (.cells #[old0] 168 (0,0))):
  Calls Tryz.prog 85 #[.nilIface,.iface 169 (.pointer (some ⟨g,0,none⟩))] w fun ev w'=>ev=.returned (.bool false)∧Below w.heap.size w w':=AsG.as_nil 168 169 g old0 w ht
end Go.Proofs.YtknelogmocedeaaGreatDoor.AsDn
namespace Go.Proofs.YtknelogmocedeaaGreatDoor.IsDn
open Go.RowKit Go.Extern.Stop Go.Stop Go.Extern
theorem isTypeOf(v:Value)(w:World):(Extern.ReflectliteType.typeOf #[.iface 348 v]).run Tryz.prog w=.ok (.iface 263 (.agg #[.pointer (some ⟨19,348,none⟩)])) w:=by kernel_rfl
def cmpEntry:Array Value→Sem Value:=Extern.ReflectliteType.method fun t=>do Rtype.noPackHeld "Comparable" t;pure (.bool (←typeInfo t).comparable)
theorem isComparable(w:World):(cmpEntry #[.agg #[.pointer (some ⟨19,348,none⟩)]]).run Tryz.prog w=.ok (.bool true) w:=by kernel_rfl
theorem isMethodComparable(v:Value)(w:World):(Go.method 477 263 v "Comparable").run Tryz.prog w=.ok (246,v) w:=by kernel_rfl
theorem isComp:(Tryz.prog.info? 348).map (·.comparable)=some true:=by kernel_rfl
theorem isSize:(Tryz.prog.info? 366).map (·.size)=some 1:=by kernel_rfl
theorem noIsE(v:Value)(xT:TypeId)(w:World):(Instr.typeAssert (.iface 348 v) xT 274 true).run Tryz.prog w=.ok (.tuple #[.nilIface,.bool false]) w:=run_typeAssert_lacksB Tryz.underlying274 (by kernel_rfl) (by kernel_rfl) v xT w
theorem noUnwrapE(v:Value)(xT:TypeId)(w:World):(Instr.typeAssert (.iface 348 v) xT 270 true).run Tryz.prog w=.ok (.tuple #[.nilIface,.bool false]) w:=run_typeAssert_lacksB Tryz.underlying270 (by kernel_rfl) (by kernel_rfl) v xT w
theorem noUnwrapsE(v:Value)(xT:TypeId)(w:World):(Instr.typeAssert (.iface 348 v) xT 271 true).run Tryz.prog w=.ok (.tuple #[.nilIface,.bool false]) w:=run_typeAssert_lacksB Tryz.underlying271 (by kernel_rfl) (by kernel_rfl) v xT w
theorem noIsW(v:Value)(xT:TypeId)(w:World):(Instr.typeAssert (.iface 168 v) xT 274 true).run Tryz.prog w=.ok (.tuple #[.nilIface,.bool false]) w:=run_typeAssert_lacksB Tryz.underlying274 (by kernel_rfl) (by kernel_rfl) v xT w
theorem hasUnwrapW(v:Value)(xT:TypeId)(w:World):(Instr.typeAssert (.iface 168 v) xT 270 true).run Tryz.prog w=.ok (.tuple #[.iface 168 v,.bool true]) w:=run_typeAssert_hasB Tryz.underlying270 (by kernel_rfl) v xT w
theorem methodUnwrap(v:Value)(w:World):(Go.method 477 168 v "Unwrap").run Tryz.prog w=.ok (235,v) w:=by kernel_rfl
set_option maxRecDepth 100000 in
set_option maxHeartbeats 4000000 in
theorem is_same(x:Value)(b:Addr)(w:World)(hg:w.cell? ⟨2,0,none⟩=some (.iface 348 (.pointer (some b)))):
  Calls Tryz.prog 86 #[.iface 168 (.agg #[x]),.iface 348 (.pointer (some b))] w fun e w'=>e=.returned (.bool true)∧w.alloc (.cells #[x] 168)=w':=by
 obtain⟨i,hi,hcmp⟩:=Option.map_eq_some_iff.1 isComp
 obtain⟨j,hj,hjs⟩:=Option.map_eq_some_iff.1 isSize
 have h8:= @run_callFunc_extern Tryz.prog 121 _ Extern.ReflectliteType.typeOf Tryz.func121 (by kernel_rfl) (by kernel_rfl) (by kernel_rfl) (by kernel_rfl)
 have h32:= @run_callFunc_extern Tryz.prog 246 _ cmpEntry Tryz.func246 (by kernel_rfl) (by kernel_rfl) (by kernel_rfl) (by kernel_rfl)
 have tT:=isTypeOf
 have cT:=isComparable
 have mR:=isMethodComparable
 have nE:=noIsE
 have uE:=noUnwrapE
 have vE:=noUnwrapsE
 have nW:=noIsW
 have uW:=hasUnwrapW
 have mU:=methodUnwrap
 have heq:=run_eql_iface_ptr_same (P:=Tryz.prog) (w.alloc (.cells #[x] 168)) b Tryz.underlying98 Tryz.underlying348 hi hcmp hj
 have hty:=run_eql_iface_types (P:=Tryz.prog) 168 348 (.agg #[x]) (.pointer (some b)) Tryz.underlying98 (by decide) w
 clear hi hcmp hj hjs
 have hlt:=World.block_lt_of_cell? w _ hg
 go_enter Tryz.func86,Tryz.ntmps86
 go_wp2
 refine wp_loop_rounds 2 ?_
 rw[rounds_succ]
 go_wp2
 rw[rounds_succ]
 go_wp2
 go_ret
 exact⟨rfl,rfl⟩
set_option maxRecDepth 100000 in
theorem is_nil(b:Addr)(w:World):
  Calls Tryz.prog 86 #[.nilIface,.iface 348 (.pointer (some b))] w fun e w'=>e=.returned (.bool false)∧w=w':=by
 have hnl:=fun w=>run_eql_iface_nil_left (P:=Tryz.prog) (w:=w) 348 (.pointer (some b)) Tryz.underlying98
 go_enter Tryz.func86,Tryz.ntmps86
 go_wp2
 go_ret
 exact⟨rfl,rfl⟩
end Go.Proofs.YtknelogmocedeaaGreatDoor.IsDn
namespace Go.Proofs.YtknelogmocedeaaGreatDoor.ToldDn
open Go.RowKit
theorem told_nil(w:World)(p:Nat→Addr)(h:Globs w p):Calls Tryz.prog 51 #[.nilIface] w fun e w'=>e=.returned (.int .i64 0)∧Below w.heap.size w w':=by
 have k0:=h.cell 2 (by decide)
 have hlt:=World.block_lt_of_cell? w _ k0
 clear h
 go_enter Tryz.func51,Tryz.ntmps51
 go_wp2_with fail
 have h1:=Aside.mk (below_new w (.cells #[.string ⟨#[]⟩] 168))
 refine(IsDn.is_nil _ _).mono ?_
 rintro e w0 ⟨rfl,rfl⟩
 go_wp2
 go_ret
 exact⟨rfl,h1.out⟩
set_option maxHeartbeats 1000000 in
theorem told_wrong(x:Value)(hx:x.oneCell'=true)(w:World)(p:Nat→Addr)(h:Globs w p):
  Calls Tryz.prog 51 #[.iface 168 (.agg #[x])] w fun e w'=>e=.returned (.int .i64 70)∧Below w.heap.size w w':=by
 have k0:=h.cell 2 (by decide)
 have hlt:=World.block_lt_of_cell? w _ k0
 go_enter Tryz.func51,Tryz.ntmps51
 go_wp2_with fail
 have h1:Below w.heap.size w (w.alloc (.cells #[.string ⟨#[]⟩] 168)):=below_new _ _
 have k1:=cell_below k0 h1
 refine(IsDn.is_same x _ _ k1).mono ?_
 rintro e w1 ⟨rfl,hb⟩
 have h2:Below w.heap.size w w1:=below_then h1 (by rw[←hb];exact below_new _ _)
 have hc:w1.heap[w.heap.size]? =some (.cells #[.string ⟨#[]⟩] 168 (0,0)):=by rw[←hb];exact blk_below (World.alloc_heap_new w _) (below_new _ _)
 have HC:=Aside.mk hc
 have H2:=Aside.mk h2
 have H3:=Aside.mk (h.below h2).et
 have hlt1:w.heap.size < w1.heap.size:=(Array.getElem?_eq_some_iff.1 hc).1
 clear k0 k1 hb hlt h h1 h2 hc
 go_wp2_with fail
 refine(AsDn.as_hit w.heap.size (.string ⟨#[]⟩) x _ hx H3.out HC.out).mono ?_
 rintro e w0 ⟨rfl,hb,hc⟩
 have H0:=Aside.mk (H2.out.trans hb)
 clear hb hc
 go_wp2
 go_ret
 exact⟨rfl,H0.out⟩
end Go.Proofs.YtknelogmocedeaaGreatDoor.ToldDn
namespace Go.Proofs.YtknelogmocedeaaGreatDoor.Dn
open Go.RowKit
set_option linter.unusedVariables false
def cAva(a:Ava):List V:=[.str a.1,.str a.2]
def cRdn(r:Rdn):List V:=[.sl (r.map cAva)]
def vName(d:Name):V:=.sl (d.map cRdn)
theorem repl_one{w:World}{L:Lv}{x:V}{cs:List Value}(h:RepL w L [x] cs):∃u,cs=[u]∧Rep w L x u:=by
 obtain⟨u,us,rfl,_,h1,h2⟩:=h
 rw[show us=[] from h2]
 exact⟨u,rfl,h1⟩
theorem rdn_view{w:World}{L:Lv}(r:Rdn)(cs:List Value)(h:RepL w L (cRdn r) cs):VRdn w (fun _=>True) cs r:=by
 obtain⟨u,rfl,h1⟩:=repl_one h
 refine rep_view (k:=2) (enc:=cAva) (by omega) (fun _=>rfl) (fun a cs h=>?_) h1
 obtain⟨u1,us,rfl,_,e1,u2,us2,rfl,_,e2,e3⟩:=h
 rw[show us2=[] from e3]
 exact⟨[u1],[u2],rfl,by rw[show u1=_ from e1];rfl,by rw[show u2=_ from e2];rfl⟩
theorem name_view{w:World}{L:Lv}{d:Name}{v:Value}(h:Rep w L (vName d) v):VName w (fun _=>True) [v] d:=rep_view (k:=1) (enc:=cRdn) (by omega) (fun _=>rfl) rdn_view h
theorem one_arg{P:Program}{w:World}{g:Gh}{t:T}{vs:List Value}(h:RepTs P w g [t] vs):∃v,vs=[v]∧RepT P w g t v:=by
 obtain⟨v,us,rfl,h1,h2⟩:=h
 rw[show us=[] from h2]
 exact⟨v,rfl,h1⟩
theorem two_args{P:Program}{w:World}{g:Gh}{t t':T}{vs:List Value}(h:RepTs P w g [t,t'] vs):∃v v',vs=[v,v']∧RepT P w g t v∧RepT P w g t' v':=by
 obtain⟨v,us,rfl,h1,h2⟩:=h
 obtain⟨v',rfl,h3⟩:=one_arg h2
 exact⟨v,v',rfl,h1,h3⟩
variable (p : Nat → Addr)
theorem right_fn(d:Name):Fn Tryz.prog (envX p) 89 [.v (vName d)] (.v (.bool (rightB d))):=
 Fn.of_plain (enter_of (by kernel_rfl)) rfl fun w L vs hE ha=>by
  obtain⟨v,rfl,h⟩:=one_arg ha
  exact right_calls v d w p hE (name_view h)
theorem type_fn(s:ByteArray):Fn Tryz.prog (envX p) 19 [.v (.str s)] (.v (.bool (typeB s.data.toList))):=
 Fn.of_plain (enter_of (by kernel_rfl)) rfl fun w L vs hE ha=>by
  obtain⟨v,rfl,h⟩:=one_arg ha
  rw[show v=.string s from h]
  exact type_calls s w p hE
def dnErr(s:ByteArray):V:=.ifc 168 (.agg [.str s])
theorem told_nil_fn:Fn Tryz.prog (envX p) 51 [.v .nili] (.v (.int .i64 0)):=
 Fn.of_plain (enter_of (by kernel_rfl)) rfl fun w L vs hE ha=>by
  obtain⟨v,rfl,h⟩:=one_arg ha
  rw[show v=.nilIface from h]
  exact ToldDn.told_nil w p hE.gl
theorem told_wrong_fn(s:ByteArray):Fn Tryz.prog (envX p) 51 [.v (dnErr s)] (.v (.int .i64 70)):=
 Fn.of_plain (enter_of (by kernel_rfl)) rfl fun w L vs hE ha=>by
  obtain⟨v,rfl,h⟩:=one_arg ha
  obtain⟨u,rfl,cs,rfl,h1⟩:=h
  obtain⟨u,h2,h3⟩:=repl_one h1
  have:cs=#[.string s]:=by
   rw[show u=_ from h3] at h2
   exact Array.toList_inj.1 h2
  rw[this]
  exact ToldDn.told_wrong (.string s) rfl w p hE.gl
def partV(s:ByteArray):T:=match partA s with
 | some a=>.tup [.v (.agg (cAva a)),.v .nili]
 | none=>.tup [.v (.agg (cAva (⟨#[]⟩,⟨#[]⟩))),.v (dnErr s)]
theorem part_fn(s:ByteArray)(hs:s.size≤1000000):Fn Tryz.prog (envX p) 88 [.v (.str s)] (partV s):=by
 refine⟨enter_of (by kernel_rfl),fun w L vs hE hL ha=>?_⟩
 obtain⟨v,rfl,h⟩:=one_arg ha
 rw[show v=.string s from h]
 refine(part_calls s hs w p hE).mono ?_
 rintro e w' ⟨h1,hb⟩
 have fin:∀{t:T} {v:Value},e=.returned v→RepT Tryz.prog w' ⟨L,fun _=>(0,0),fun _=>undef⟩ t v→∃v L',e=.returned v∧Below w.heap.size w w'∧Same L w L' w'∧(∀{b o},L' b o→L b o∨w.heap.size≤b)∧(∀{b o},L' b o→∃u,w'.cell? ⟨b,o,none⟩=some u)∧RepT Tryz.prog w' ⟨L',fun _=>(0,0),fun _=>undef⟩ t v:=fun {t v} he hr=>
  ⟨v,L,he,hb,Same.of_below hb,.inl,fun hl=>let ⟨u,hu⟩:=hL hl;⟨u,cell_below hu hb⟩,hr⟩
 rcases h1 with⟨a,h2,he⟩ | ⟨h2,he⟩
 ·rw[partV,h2]
  exact fin he ⟨_,rfl,_,_,rfl,⟨_,rfl,_,_,rfl,rfl,rfl,_,_,rfl,rfl,rfl,rfl⟩,_,_,rfl,rfl,rfl⟩
 ·rw[partV,h2]
  exact fin he ⟨_,rfl,_,_,rfl,⟨_,rfl,_,_,rfl,rfl,rfl,_,_,rfl,rfl,rfl,rfl⟩,_,_,rfl,⟨_,rfl,_,rfl,_,_,rfl,rfl,rfl,rfl⟩,rfl⟩
end Go.Proofs.YtknelogmocedeaaGreatDoor.Dn
namespace Go.Proofs.YtknelogmocedeaaGreatDoor
open Go.RowKit
theorem ofNat_wrap(n:Nat):UInt8.ofNat (IntKind.u8.wrap (n:Int)).toNat=UInt8.ofNat n:=by
 have:(IntKind.u8.wrap (n:Int)).toNat=n % 256:=by
  simp[IntKind.wrap,IntKind.signed,IntKind.bits]
  omega
 rw[this,←UInt8.toNat_inj,UInt8.toNat_ofNat',UInt8.toNat_ofNat']
 omega
theorem st_div(a b:Nat)(hb:b≠0)(ha:a≤1000000000000000){K:Int→Prop}(h:K ((a / b:Nat):Int)):IntKind.i64=IntKind.i64∧(b:Int)≠0∧∃n,IntKind.i64.wrap ((a:Int).tdiv (b:Int))=n∧K n:=by
 refine⟨rfl,by omega,_,rfl,?_⟩
 have e:(a:Int).tdiv (b:Int)=((a / b:Nat):Int):=by rw[Int.tdiv_eq_ediv_of_nonneg (by omega)];rfl
 have:=Nat.div_le_self a b
 rw[e]
 generalize a / b=d at*
 rw[wrap64 (by omega) (by omega)];exact h
theorem st_mod(a b:Nat)(hb:b≠0){K:Int→Prop}(h:K ((a % b:Nat):Int)):IntKind.i64=IntKind.i64∧(b:Int)≠0∧∃n,(a:Int).tmod (b:Int)=n∧K n:=by
 refine⟨rfl,by omega,_,rfl,?_⟩
 have e:(a:Int).tmod (b:Int)=((a % b:Nat):Int):=by rw[Int.tmod_eq_emod_of_nonneg (by omega)];rfl
 rw[e];exact h
theorem st_add(a b:Nat)(ha:a+b≤1000000000000000){K:Int→Prop}(h:K ((a+b:Nat):Int)):IntKind.i64=IntKind.i64∧∃n,IntKind.i64.wrap ((a:Int)+(b:Int))=n∧K n:=
 ⟨rfl,_,wrap64 (by omega) (by omega),by rw[show((a:Int)+(b:Int))=((a+b:Nat):Int) by omega];exact h⟩
theorem st_minus(a b:Nat)(hab:b≤a)(ha:a≤1000000000000000){K:Int→Prop}(h:K ((a - b:Nat):Int)):IntKind.i64=IntKind.i64∧∃n,IntKind.i64.wrap ((a:Int) - (b:Int))=n∧K n:=
 ⟨rfl,_,wrap64 (by omega) (by omega),by rw[show((a:Int) - (b:Int))=((a - b:Nat):Int) by omega];exact h⟩
theorem st_times(a b:Nat)(ha:a*b≤1000000000000000){K:Int→Prop}(h:K ((a*b:Nat):Int)):IntKind.i64=IntKind.i64∧∃n,IntKind.i64.wrap ((a:Int)*(b:Int))=n∧K n:=
 ⟨rfl,_,wrap64 (by rw[←Int.natCast_mul];omega) (by rw[←Int.natCast_mul];omega),by rw[←Int.natCast_mul];exact h⟩
theorem st_int(c:UInt8){K:Int→Prop}(h:K ((c.toNat:Nat):Int)):∃n,IntKind.i64.wrap ((c.toNat:Nat):Int)=n∧K n:=by
 have:=c.toNat_lt
 exact⟨_,wrap64 (by omega) (by omega),h⟩
theorem st_callB{f:FuncId}{P:Program}{X:En}{bs args:List T}{b:Bool}{K:T→Prop}(h:Fn P X f args (.v (.bool b)))(hl:LeTs bs args)(h1:T.pures args=true)(ht:b=true→K (.v (.bool true)))(hf:b=false→K (.v (.bool false))):∃(args:List T) (r:T),Cn P X f [] args r []∧LeTs bs args∧T.pures args=true∧r.pure=true∧K r:=
 ⟨args,_,⟨rfl,h⟩,hl,h1,rfl,by cases b;exact hf rfl;exact ht rfl⟩
end Go.Proofs.YtknelogmocedeaaGreatDoor
