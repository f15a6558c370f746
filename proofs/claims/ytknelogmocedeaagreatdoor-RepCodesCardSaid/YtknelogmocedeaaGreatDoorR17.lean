/- code.Unhex at texts of at most two bytes. Conditions: that. -/
import Derived.Test.YtknelogmocedeaaGreatDoorR16
import Derived.Test.YtknelogmocedeaaGreatDoorR15
import Derived.Test.YtknelogmocedeaaGreatDoorR11
import Derived.IntWalk
namespace Go.Proofs.YtknelogmocedeaaGreatDoor.Code
open Go.RowKit
set_option linter.unusedVariables false
theorem index_digit:∀n:Fin 128,Lib.indexByte [48,49,50,51,52,53,54,55,56,57,97,98,99,100,101,102] (UInt8.ofNat n.1)=if 48≤n.1∧n.1≤57 then(n.1:Int) - 48 else if 97≤n.1∧n.1≤102 then(n.1:Int) - 87 else -1:=by decide+kernel
theorem or16:∀x y:Fin 16,bits BinOp.or IntKind.i64 ((x.1:Int)*16) (y.1:Int)=((16*x.1+y.1:Nat):Int):=by decide+kernel
theorem decode_two(s:ByteArray)(hs:s.size≤2)(pos:Nat)(hp:pos < s.size)(h:128≤s[pos].toNat):(Utf8.decode s pos).1=65533∨(128≤(Utf8.decode s pos).1∧(Utf8.decode s pos).1 < 2048):=by
 have hn:¬s[pos].toNat < 128:=by omega
 have h2:¬pos+2 < s.size:=by omega
 have h256:=s[pos].toNat_lt
 simp only[Utf8.decode,get_at s pos hp,hn,if_false,h2,decide_false,Bool.false_and,Bool.and_false,Bool.false_eq_true]
 repeat' split
 all_goals simp_all [Utf8.runeError]
 all_goals omega
theorem digits_low:∀n:Fin 16,((⟨#[48,49,50,51,52,53,54,55,56,57,97,98,99,100,101,102]⟩:ByteArray)[n.1]'n.2).toNat < 128:=by decide+kernel
set_option maxRecDepth 1000000 in
set_option maxHeartbeats 4000000 in
theorem index_bad(w:World):Calls Tryz.prog 204 #[.string ⟨#[48,49,50,51,52,53,54,55,56,57,97,98,99,100,101,102]⟩,.int .i32 65533] w fun e w'=>e=.returned (.int .i64 (-1))∧Below w.heap.size w w':=by
 have HL:=Aside.mk digits_low
 obtain⟨s,hs⟩:∃s:ByteArray,s=⟨#[48,49,50,51,52,53,54,55,56,57,97,98,99,100,101,102]⟩:=⟨_,rfl⟩
 have hsz:s.size=16:=by rw[hs];rfl
 have HS:=Aside.mk (show ∀pos (h:pos < s.size),s[pos].toNat < 128 by
  subst hs
  intro pos h
  exact HL.out ⟨pos,h⟩)
 rw[←hs]
 have HSZ:=Aside.mk hsz
 clear hs HL hsz
 go_enter Tryz.func204,Tryz.ntmps204
 go_wp2_with fail
 go_loopg [] s.size (fun gk wr=>Aside (∃pos:Nat,wr.heap[w.heap.size]? =some (.stringIter s pos)∧Below w.heap.size w wr∧pos+gk=s.size))
 case atStart=>exact⟨⟨0,World.iter_heap w s 0,below_new _ _,by omega⟩⟩
 case round=>
  obtain⟨pos,hit,hbw,hgk⟩:=hrel.out
  clear hrel
  have HB:=Aside.mk hbw
  clear hbw
  by_cases hp:pos < s.size
  ·obtain⟨m,rfl⟩:∃m,gk=m+1:=⟨gk - 1,by omega⟩
   have hlow:=HS.out pos hp
   have hnx:∀ty,(Instr.next (.pointer (some ⟨w.heap.size,0,none⟩)) true ty).run Tryz.prog wr=_:=fun ty=>Lib.run_next_ascii_at wr w.heap.size s pos ty hit hp hlow
   have HH:=Aside.mk (fun p'=>Lib.iterAt_heap wr w.heap.size s pos p' hit)
   have HB2:=Aside.mk (fun p'=>Lib.below_iterAt HB.out (k:=w.heap.size) (Nat.le_refl _) s p')
   generalize s[pos].toNat=c at hnx hlow
   have g1:((c:Int)==65533)=false:=by simp;omega
   go_wp2
   go_roundg m
   case measure=>omega
   case rel=>exact⟨⟨pos+1,HH.out _,HB2.out _,by omega⟩⟩
  ·have hnx:∀ty,(Instr.next (.pointer (some ⟨w.heap.size,0,none⟩)) true ty).run Tryz.prog wr=_:=fun ty=>Lib.run_next_end_at wr w.heap.size s pos ty hit hp
   go_wp2
   go_ret
   exact⟨rfl,HB.out⟩
theorem index_any(r:Nat)(h:r < 128∨r=65533∨(128≤r∧r < 2048))(w:World):Calls Tryz.prog 204 #[.string ⟨#[48,49,50,51,52,53,54,55,56,57,97,98,99,100,101,102]⟩,.int .i32 r] w fun e w'=>e=.returned (.int .i64 (if 48≤r∧r≤57 then(r:Int) - 48 else if 97≤r∧r≤102 then(r:Int) - 87 else -1))∧Below w.heap.size w w':=by
 rcases h with h | rfl | ⟨h1,h2⟩
 ·refine(Shelf.strings_IndexRune_ascii ⟨#[48,49,50,51,52,53,54,55,56,57,97,98,99,100,101,102]⟩ r w (by omega) (by omega)).mono ?_
  rintro e w' ⟨rfl,rfl⟩
  refine⟨?_,Below.refl _ _⟩
  have:=index_digit ⟨r,h⟩
  rw[←this];rfl
 ·exact index_bad w
 ·rw[if_neg (by omega),if_neg (by omega)]
  exact index_two r h1 h2 w
theorem next_two(s:ByteArray)(hs:s.size≤2)(pos:Nat)(hp:pos < s.size):((Utf8.decode s pos).1 < 128∨(Utf8.decode s pos).1=65533∨(128≤(Utf8.decode s pos).1∧(Utf8.decode s pos).1 < 2048))∧
  ((∃y,hexVal s[pos]=some y∧(Utf8.decode s pos).2=1∧((48≤(Utf8.decode s pos).1∧(Utf8.decode s pos).1≤57∧y=(Utf8.decode s pos).1 - 48)∨(97≤(Utf8.decode s pos).1∧(Utf8.decode s pos).1≤102∧y=(Utf8.decode s pos).1 - 87)∨(65≤(Utf8.decode s pos).1∧(Utf8.decode s pos).1≤70∧y=(Utf8.decode s pos).1 - 55)))∨
   (hexVal s[pos]=none∧((Utf8.decode s pos).1 < 48∨(57 < (Utf8.decode s pos).1∧(Utf8.decode s pos).1 < 65)∨(70 < (Utf8.decode s pos).1∧(Utf8.decode s pos).1 < 97)∨102 < (Utf8.decode s pos).1))):=by
 by_cases ha:s[pos].toNat < 128
 ·rw[decode_ascii s pos hp ha]
  dsimp only
  refine⟨.inl ha,?_⟩
  unfold hexVal
  generalize s[pos].toNat=n at ha
  by_cases h1:48≤n∧n≤57
  ·exact .inl ⟨n - 48,by rw[if_pos h1],rfl,.inl ⟨h1.1,h1.2,rfl⟩⟩
  ·by_cases h2:97≤n∧n≤102
   ·exact .inl ⟨n - 87,by rw[if_neg h1,if_pos h2],rfl,.inr (.inl ⟨h2.1,h2.2,rfl⟩)⟩
   ·by_cases h3:65≤n∧n≤70
    ·exact .inl ⟨n - 55,by rw[if_neg h1,if_neg h2,if_pos h3],rfl,.inr (.inr ⟨h3.1,h3.2,rfl⟩)⟩
    ·exact .inr ⟨by rw[if_neg h1,if_neg h2,if_neg h3],by omega⟩
 ·have h2:=decode_two s hs pos hp (by omega)
  refine⟨by omega,.inr ⟨?_,by omega⟩⟩
  unfold hexVal
  rw[if_neg (by omega),if_neg (by omega),if_neg (by omega)]
theorem list_two(s:ByteArray)(hs:s.size=2):s.data.toList=[s[0],s[1]]:=by
 have h0:=Txt.drop_cons s 0 (by omega)
 have h1:=Txt.drop_cons s 1 (by omega)
 rw[List.drop_zero] at h0
 rw[h0,h1,List.drop_eq_nil_of_le (by rw[Txt.size_list];omega)]
theorem bad_two(s:ByteArray)(hs:s.size≤2)(pos:Nat)(hp:pos < s.size)(h:hexVal s[pos]=none):unhex2 s.data.toList=none:=by
 rcases(by omega:s.size=1∨s.size=2) with h1 | h2
 ·have:s.data.toList.length=1:=by rw[Txt.size_list,h1]
  match s.data.toList,this with
  | [c],_=>rfl
 ·rw[list_two s h2]
  rcases(by omega:pos=0∨pos=1) with rfl | rfl
  ·simp[unhex2,h]
  ·simp only[unhex2,h]
   split <;> simp_all
theorem two_digits(s:ByteArray)(hs:s.size≤2)(pos:Nat)(hp:pos < s.size)(h1:pos=1)(x y:Nat)(hx:hexVal (s.data.toList.getD 0 0)=some x)(hy:hexVal s[pos]=some y):unhex2 s.data.toList=some [UInt8.ofNat (16*x+y)]:=by
 subst h1
 rw[list_two s (by omega)] at hx ⊢
 simp only[List.getD_cons_zero] at hx
 simp only[unhex2,hx,hy]
def UnRes(l:List UInt8)(v:Value):Prop:=(∃t,unhex2 l=some t∧v=.tuple #[.string ⟨t.toArray⟩,.nilIface])∨(unhex2 l=none∧∃n:Int,v=.tuple #[.string ⟨#[]⟩,.iface 346 (.agg #[.int .i64 n])])
theorem head_two(s:ByteArray)(pos:Nat)(hp:pos < s.size)(h0:pos=0):s.data.toList.getD 0 0=s[pos]:=by
 subst h0
 have:=Txt.drop_cons s 0 hp
 rw[List.drop_zero] at this
 rw[this];rfl
def St(s:ByteArray)(pos:Nat)(half:Int)(v4:Value)(wr:World)(base:Nat):Prop:=
 (pos=0∧half= -1∧v4=.slice none 0 0)∨(pos=1∧∃x:Nat,hexVal (s.data.toList.getD 0 0)=some x∧half=x∧v4=.slice none 0 0)∨
  (pos=2∧half= -1∧∃z,unhex2 s.data.toList=some [z]∧OwnV 5 1 VByte wr base (fun b=>base≤b) v4 [z])
set_option maxRecDepth 100000 in
set_option maxHeartbeats 4000000 in
theorem unhex_calls(s:ByteArray)(hs:s.size≤2)(w:World):Calls Tryz.prog 211 #[.string s] w fun e w'=>(∃v,e=.returned v∧UnRes s.data.toList v)∧Below w.heap.size w w':=by
 have hsl:=Txt.size_list s
 have HSL:=Aside.mk hsl
 clear hsl
 go_enter Tryz.func211,Tryz.ntmps211
 go_wp2_with fail
 go_loopg [4,5] s.size (fun gk v4 v5 wr=>∃(half:Int),v5=.int .i64 half∧Aside (∃pos,pos+gk=s.size∧wr.heap[w.heap.size]? =some (.stringIter s pos)∧Below w.heap.size w wr∧St s pos half v4 wr (w.heap.size+1)))
 case atStart=>exact⟨_,rfl,⟨0,by omega,World.iter_heap w s 0,below_new _ _,.inl ⟨rfl,rfl,rfl⟩⟩⟩
 case round=>
  obtain⟨half,rfl,HI⟩:=hrel
  obtain⟨pos,hgk,hit,hbw,hst⟩:=HI.out
  clear HI
  have HB:=Aside.mk hbw
  have HS:=Aside.mk hst
  clear hbw hst
  by_cases hp:pos < s.size
  ·obtain⟨m,rfl⟩:∃m,gk=m+1:=⟨gk - 1,by omega⟩
   have hnx:∀ty,(Instr.next (.pointer (some ⟨w.heap.size,0,none⟩)) true ty).run Tryz.prog wr=_:=fun ty=>Lib.run_next_any_at wr w.heap.size s pos ty hit hp
   have HH:=Aside.mk (fun p'=>Lib.iterAt_heap wr w.heap.size s pos p' hit)
   have HB2:=Aside.mk (fun p'=>Lib.below_iterAt HB.out (k:=w.heap.size) (Nat.le_refl _) s p')
   have HN:=Aside.mk (next_two s hs pos hp)
   obtain⟨r,hr⟩:∃r,(Utf8.decode s pos).1=r:=⟨_,rfl⟩
   obtain⟨wd,hwd⟩:∃wd,(Utf8.decode s pos).2=wd:=⟨_,rfl⟩
   rw[hr,hwd] at hnx HN
   clear hr hwd
   have HNX:=Aside.mk hnx
   have HIx:=Aside.mk (index_any r HN.out.1)
   rcases HN.out.2 with⟨y,hy,hwd,hcl⟩ | ⟨hy,hcl⟩
   ·have HY:=Aside.mk (And.intro hy hwd)
    clear hy hwd
    rcases HS.out with⟨h0,h1,h2⟩ | ⟨h0,x,hx,h1,h2⟩ | ⟨h0,_⟩
    ·-- the first digit
     have HP:=Aside.mk h0
     subst h1 h2
     clear h0
     rcases hcl with hcl | hcl | hcl
     ·have hix:=HIx.out
      rw[if_pos (by omega)] at hix
      have HIy:=Aside.mk hix
      have g0:(r:Int) < 65:=by omega
      have g1:(48:Int)≤(r:Int):=by omega
      have g2:(r:Int)≤57:=by omega
      have g3:(0:Int)≤(r:Int) - 48:=by omega
      have HC:=Aside.mk hcl
      clear hix hcl
      go_wp2_with fail
      refine(HIy.out _).mono ?_
      rintro e w1 ⟨rfl,hb⟩
      have HB1:=Aside.mk (below_then (HB2.out _) hb)
      have HH1:=Aside.mk (blk_below (HH.out _) hb)
      clear hb
      go_wp2
      go_roundg m
      case measure=>omega
      case rel=>
       have hc:=HC.out
       have hp0:=HP.out
       have hwd:=HY.out.2
       exact⟨_,rfl,⟨1,by omega,by rw[show(1:Nat)=pos+wd by omega];exact HH1.out,HB1.out,.inr (.inl ⟨rfl,y,by rw[head_two s pos hp hp0];exact HY.out.1,by omega,rfl⟩)⟩⟩
     ·have hix:=HIx.out
      rw[if_neg (by omega),if_pos (by omega)] at hix
      have HIy:=Aside.mk hix
      have g0:(65:Int)≤(r:Int):=by omega
      have g1:(70:Int) < (r:Int):=by omega
      have g2:(97:Int)≤(r:Int):=by omega
      have g3:(r:Int)≤102:=by omega
      have g4:(0:Int)≤(r:Int) - 87:=by omega
      have HC:=Aside.mk hcl
      clear hix hcl
      go_wp2_with fail
      refine(HIy.out _).mono ?_
      rintro e w1 ⟨rfl,hb⟩
      have HB1:=Aside.mk (below_then (HB2.out _) hb)
      have HH1:=Aside.mk (blk_below (HH.out _) hb)
      clear hb
      go_wp2
      go_roundg m
      case measure=>omega
      case rel=>
       have hc:=HC.out
       have hp0:=HP.out
       have hwd:=HY.out.2
       exact⟨_,rfl,⟨1,by omega,by rw[show(1:Nat)=pos+wd by omega];exact HH1.out,HB1.out,.inr (.inl ⟨rfl,y,by rw[head_two s pos hp hp0];exact HY.out.1,by omega,rfl⟩)⟩⟩
     ·have hix:=HIx.out
      rw[if_neg (by omega),if_neg (by omega)] at hix
      have HIy:=Aside.mk hix
      have g0:(65:Int)≤(r:Int):=by omega
      have g1:(r:Int)≤70:=by omega
      have HC:=Aside.mk hcl
      clear hix hcl
      go_wp2_with fail
      refine(HIy.out _).mono ?_
      rintro e w1 ⟨rfl,hb⟩
      have HB1:=Aside.mk (below_then (HB2.out _) hb)
      have HH1:=Aside.mk (blk_below (HH.out _) hb)
      clear hb
      go_wp2
      go_roundg m
      case measure=>omega
      case rel=>
       have hc:=HC.out
       have hp0:=HP.out
       have hwd:=HY.out.2
       exact⟨_,rfl,⟨1,by omega,by rw[show(1:Nat)=pos+wd by omega];exact HH1.out,HB1.out,.inr (.inl ⟨rfl,y,by rw[head_two s pos hp hp0];exact HY.out.1,by omega,rfl⟩)⟩⟩
    ·-- the second one
     have HP:=Aside.mk h0
     have HX:=Aside.mk hx
     have hx16:=(hexVal_lt hx).1
     subst h1 h2
     clear h0 hx
     rcases hcl with hcl | hcl | hcl
     ·have hix:=HIx.out
      rw[if_pos (by omega)] at hix
      have HIy:=Aside.mk hix
      obtain⟨zb,hzb⟩:∃zb:UInt8,UInt8.ofNat (16*x+y)=zb:=⟨_,rfl⟩
      have hy16:=(hexVal_lt HY.out.1).1
      have hor:bits BinOp.or IntKind.i64 ((x:Int)*16) ((r:Int) - 48)=((zb.toNat:Nat):Int):=by
       have h1:=or16 ⟨x,hx16⟩ ⟨y,hy16⟩
       dsimp only at h1
       rw[show((r:Int) - 48:Int)=(y:Int) by omega,h1,←hzb,UInt8.toNat_ofNat']
       congr 1;omega
      have hz1:=zb.toNat_lt
      have HZ:=Aside.mk (two_digits s hs pos hp HP.out x y HX.out HY.out.1)
      rw[hzb] at HZ
      have hx1:(0:Int)≤(x:Int):=by omega
      have hx2:(x:Int)≤15:=by omega
      have hzz:(zb.toNat:Int)≤255:=by omega
      have hw1:IntKind.u8.wrap (zb.toNat:Int)=(zb.toNat:Int):=IntWalk.u8_in _ (by omega)
      have hw2:IntKind.i64.wrap ((x:Int)*16)=(x:Int)*16:=IntWalk.i64_in _ (by omega)
      have g0:(r:Int) < 65:=by omega
      have g1:(48:Int)≤(r:Int):=by omega
      have g2:(r:Int)≤57:=by omega
      have g3:(0:Int)≤(r:Int) - 48:=by omega
      have HC:=Aside.mk hcl
      clear hix hcl hzb hx16 hy16
      go_wp2_with fail
      refine(HIy.out _).mono ?_
      rintro e w1 ⟨rfl,hb⟩
      have HB1:=Aside.mk (below_then (HB2.out _) hb)
      have HH1:=Aside.mk (blk_below (HH.out _) hb)
      have hlt:w.heap.size+1≤w1.heap.size:=(Array.getElem?_eq_some_iff.1 HH1.out).1
      clear hb
      go_wp2_with (refine wpList_append_view VByte.ok bytesTy rfl (.tmp 27) (.tmp 33) rfl (v:=.slice none 0 0) (xs:=[]) (base:=w.heap.size+1) (av:=fun b=>w.heap.size+1≤b) rfl (OwnV.nil _ _ _ _ _ _) (xv:=.slice (some ⟨w1.heap.size,0,none⟩) 1 1) (avs:=fun b=>b=w1.heap.size) rfl (lit_bytes w1 (fun b=>b=w1.heap.size) [zb] rfl 1 1 rfl (by simp)) (fun b hb _=>⟨by omega,by simp[Value.ownBlock]⟩) (by simp) (by simp;omega) ?_)
      intro v' w6 hown hgrow hat
      have L1:=Aside.mk hown
      have L2:=Aside.mk (show Below w.heap.size w w6 from below_of_own (v:=.slice none 0 0) HB1.out (below_new _ _) hgrow (fun b e=>by simp[Value.ownBlock] at e))
      have L3:=Aside.mk (show w6.heap[w.heap.size]? =some (.stringIter s (pos+wd)) from blk_grown (blk_below HH1.out (below_new w1 _)) hgrow (by simp[Value.ownBlock]))
      clear hown hgrow hat hor
      go_wp2
      go_roundg m
      case measure=>omega
      case rel=>
       have hp0:=HP.out
       have hwd:=HY.out.2
       exact⟨_,rfl,⟨2,by omega,by rw[show(2:Nat)=pos+wd by omega];exact L3.out,L2.out,.inr (.inr ⟨rfl,rfl,zb,HZ.out,L1.out⟩)⟩⟩
     ·have hix:=HIx.out
      rw[if_neg (by omega),if_pos (by omega)] at hix
      have HIy:=Aside.mk hix
      obtain⟨zb,hzb⟩:∃zb:UInt8,UInt8.ofNat (16*x+y)=zb:=⟨_,rfl⟩
      have hy16:=(hexVal_lt HY.out.1).1
      have hor:bits BinOp.or IntKind.i64 ((x:Int)*16) ((r:Int) - 87)=((zb.toNat:Nat):Int):=by
       have h1:=or16 ⟨x,hx16⟩ ⟨y,hy16⟩
       dsimp only at h1
       rw[show((r:Int) - 87:Int)=(y:Int) by omega,h1,←hzb,UInt8.toNat_ofNat']
       congr 1;omega
      have hz1:=zb.toNat_lt
      have HZ:=Aside.mk (two_digits s hs pos hp HP.out x y HX.out HY.out.1)
      rw[hzb] at HZ
      have hx1:(0:Int)≤(x:Int):=by omega
      have hx2:(x:Int)≤15:=by omega
      have hzz:(zb.toNat:Int)≤255:=by omega
      have hw1:IntKind.u8.wrap (zb.toNat:Int)=(zb.toNat:Int):=IntWalk.u8_in _ (by omega)
      have hw2:IntKind.i64.wrap ((x:Int)*16)=(x:Int)*16:=IntWalk.i64_in _ (by omega)
      have g0:(65:Int)≤(r:Int):=by omega
      have g1:(70:Int) < (r:Int):=by omega
      have g2:(97:Int)≤(r:Int):=by omega
      have g3:(r:Int)≤102:=by omega
      have g4:(0:Int)≤(r:Int) - 87:=by omega
      have HC:=Aside.mk hcl
      clear hix hcl hzb hx16 hy16
      go_wp2_with fail
      refine(HIy.out _).mono ?_
      rintro e w1 ⟨rfl,hb⟩
      have HB1:=Aside.mk (below_then (HB2.out _) hb)
      have HH1:=Aside.mk (blk_below (HH.out _) hb)
      have hlt:w.heap.size+1≤w1.heap.size:=(Array.getElem?_eq_some_iff.1 HH1.out).1
      clear hb
      go_wp2_with (refine wpList_append_view VByte.ok bytesTy rfl (.tmp 27) (.tmp 33) rfl (v:=.slice none 0 0) (xs:=[]) (base:=w.heap.size+1) (av:=fun b=>w.heap.size+1≤b) rfl (OwnV.nil _ _ _ _ _ _) (xv:=.slice (some ⟨w1.heap.size,0,none⟩) 1 1) (avs:=fun b=>b=w1.heap.size) rfl (lit_bytes w1 (fun b=>b=w1.heap.size) [zb] rfl 1 1 rfl (by simp)) (fun b hb _=>⟨by omega,by simp[Value.ownBlock]⟩) (by simp) (by simp;omega) ?_)
      intro v' w6 hown hgrow hat
      have L1:=Aside.mk hown
      have L2:=Aside.mk (show Below w.heap.size w w6 from below_of_own (v:=.slice none 0 0) HB1.out (below_new _ _) hgrow (fun b e=>by simp[Value.ownBlock] at e))
      have L3:=Aside.mk (show w6.heap[w.heap.size]? =some (.stringIter s (pos+wd)) from blk_grown (blk_below HH1.out (below_new w1 _)) hgrow (by simp[Value.ownBlock]))
      clear hown hgrow hat hor
      go_wp2
      go_roundg m
      case measure=>omega
      case rel=>
       have hp0:=HP.out
       have hwd:=HY.out.2
       exact⟨_,rfl,⟨2,by omega,by rw[show(2:Nat)=pos+wd by omega];exact L3.out,L2.out,.inr (.inr ⟨rfl,rfl,zb,HZ.out,L1.out⟩)⟩⟩
     ·have hix:=HIx.out
      rw[if_neg (by omega),if_neg (by omega)] at hix
      have HIy:=Aside.mk hix
      obtain⟨zb,hzb⟩:∃zb:UInt8,UInt8.ofNat (16*x+y)=zb:=⟨_,rfl⟩
      have hy16:=(hexVal_lt HY.out.1).1
      have hor:bits BinOp.or IntKind.i64 ((x:Int)*16) ((r:Int) - 65+10)=((zb.toNat:Nat):Int):=by
       have h1:=or16 ⟨x,hx16⟩ ⟨y,hy16⟩
       dsimp only at h1
       rw[show((r:Int) - 65+10:Int)=(y:Int) by omega,h1,←hzb,UInt8.toNat_ofNat']
       congr 1;omega
      have hz1:=zb.toNat_lt
      have HZ:=Aside.mk (two_digits s hs pos hp HP.out x y HX.out HY.out.1)
      rw[hzb] at HZ
      have hx1:(0:Int)≤(x:Int):=by omega
      have hx2:(x:Int)≤15:=by omega
      have hzz:(zb.toNat:Int)≤255:=by omega
      have hw1:IntKind.u8.wrap (zb.toNat:Int)=(zb.toNat:Int):=IntWalk.u8_in _ (by omega)
      have hw2:IntKind.i64.wrap ((x:Int)*16)=(x:Int)*16:=IntWalk.i64_in _ (by omega)
      have g0:(65:Int)≤(r:Int):=by omega
      have g1:(r:Int)≤70:=by omega
      have HC:=Aside.mk hcl
      clear hix hcl hzb hx16 hy16
      go_wp2_with fail
      refine(HIy.out _).mono ?_
      rintro e w1 ⟨rfl,hb⟩
      have HB1:=Aside.mk (below_then (HB2.out _) hb)
      have HH1:=Aside.mk (blk_below (HH.out _) hb)
      have hlt:w.heap.size+1≤w1.heap.size:=(Array.getElem?_eq_some_iff.1 HH1.out).1
      clear hb
      go_wp2_with (refine wpList_append_view VByte.ok bytesTy rfl (.tmp 27) (.tmp 33) rfl (v:=.slice none 0 0) (xs:=[]) (base:=w.heap.size+1) (av:=fun b=>w.heap.size+1≤b) rfl (OwnV.nil _ _ _ _ _ _) (xv:=.slice (some ⟨w1.heap.size,0,none⟩) 1 1) (avs:=fun b=>b=w1.heap.size) rfl (lit_bytes w1 (fun b=>b=w1.heap.size) [zb] rfl 1 1 rfl (by simp)) (fun b hb _=>⟨by omega,by simp[Value.ownBlock]⟩) (by simp) (by simp;omega) ?_)
      intro v' w6 hown hgrow hat
      have L1:=Aside.mk hown
      have L2:=Aside.mk (show Below w.heap.size w w6 from below_of_own (v:=.slice none 0 0) HB1.out (below_new _ _) hgrow (fun b e=>by simp[Value.ownBlock] at e))
      have L3:=Aside.mk (show w6.heap[w.heap.size]? =some (.stringIter s (pos+wd)) from blk_grown (blk_below HH1.out (below_new w1 _)) hgrow (by simp[Value.ownBlock]))
      clear hown hgrow hat hor
      go_wp2
      go_roundg m
      case measure=>omega
      case rel=>
       have hp0:=HP.out
       have hwd:=HY.out.2
       exact⟨_,rfl,⟨2,by omega,by rw[show(2:Nat)=pos+wd by omega];exact L3.out,L2.out,.inr (.inr ⟨rfl,rfl,zb,HZ.out,L1.out⟩)⟩⟩
    ·exfalso;omega
   ·have HY:=Aside.mk hy
    clear hy
    have hix:=HIx.out
    rw[if_neg (by omega),if_neg (by omega)] at hix
    have HIy:=Aside.mk hix
    clear hix
    rcases(by omega:((r:Int) < 65∧(r:Int) < 70)∨((65:Int)≤(r:Int)∧(70:Int) < (r:Int))) with⟨g1,g2⟩ | ⟨g1,g2⟩
    all_goals
     clear hcl
     go_wp2_with fail
     refine(HIy.out _).mono ?_
     rintro e w1 ⟨rfl,hb⟩
     have HB1:=Aside.mk (below_then (HB2.out _) hb)
     clear hb
     go_wp2
     go_ret2
     refine⟨⟨_,rfl,?_⟩,HB1.out⟩
     exact .inr ⟨bad_two s hs pos hp HY.out,_,rfl⟩
  ·have hnx:∀ty,(Instr.next (.pointer (some ⟨w.heap.size,0,none⟩)) true ty).run Tryz.prog wr=_:=fun ty=>Lib.run_next_end_at wr w.heap.size s pos ty hit hp
   rcases HS.out with⟨h0,h1,h2⟩ | ⟨h0,x,hx,h1,h2⟩ | ⟨h0,h1,z,hz,hown⟩
   ·subst h1 h2
    have HU:=Aside.mk (show unhex2 s.data.toList=some [] by
     have:s.data.toList=[]:=List.eq_nil_of_length_eq_zero (by have:=HSL.out;omega)
     rw[this];rfl)
    have hconv:=fun W=>bytes_text (w:=W) (av:=fun _=>True) (v:=.slice none 0 0) (l:=[]) (VSlice.nil _ _ _ _)
    go_wp2
    go_ret2
    refine⟨⟨_,rfl,?_⟩,HB.out⟩
    exact .inl ⟨_,HU.out,rfl⟩
   ·have hx16:=(hexVal_lt hx).1
    have HU:=Aside.mk (show unhex2 s.data.toList=none by
     have h1:s.data.toList.length=1:=by have:=HSL.out;omega
     match s.data.toList,h1 with
     | [c],_=>rfl)
    subst h1 h2
    have hx0:(0:Int)≤(x:Int):=by omega
    clear hx
    go_wp2
    go_ret2
    refine⟨⟨_,rfl,?_⟩,HB.out⟩
    exact .inr ⟨HU.out,_,rfl⟩
   ·have hconv:=bytes_text (hown.view VByte.ok)
    have HU:=Aside.mk hz
    subst h1
    clear hown hz
    go_wp2
    go_ret2
    refine⟨⟨_,rfl,?_⟩,HB.out⟩
    exact .inl ⟨_,HU.out,rfl⟩
end Go.Proofs.YtknelogmocedeaaGreatDoor.Code
