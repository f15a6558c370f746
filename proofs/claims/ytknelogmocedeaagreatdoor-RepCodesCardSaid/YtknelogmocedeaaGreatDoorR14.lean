/- dn: types of names (isKey, isNumber, areAll, IsType). Conditions: the slice reads as it lies; a text has at most 2^32 bytes where it is cut. -/
import Derived.Test.YtknelogmocedeaaGreatDoorR11
import Derived.Test.YtknelogmocedeaaGreatDoorR01
import Derived.Test.YtknelogmocedeaaGreatDoorR13
import Derived.Deep.LoopGhost
import Derived.Outline
namespace Go.Proofs.YtknelogmocedeaaGreatDoor.Dn
open Go.RowKit Go.Shelf Go.Lib
set_option linter.unusedVariables false
theorem numOther(w:World):PredAt Tryz.prog 91 #[] encR (fun r=>decide (r < 48)||decide (57 < r)) w:=fun W r _=>by
 unfold FnGives
 by_cases h1:r < 48 <;> by_cases h2:57 < r
 all_goals
  have z1:(r:Int) < 48↔r < 48:=by omega
  have z2:(57:Int) < (r:Int)↔57 < r:=by omega
  go_enter Tryz.func91,Tryz.ntmps91
  go_wp2
  all_goals first | (exfalso;omega) | (go_ret;exact⟨by simp[h1,h2],0,rfl⟩)
theorem num_val(c:UInt8)(t:List UInt8)(hd:(c::t).all digit=true):(c==48&&t.isEmpty||(((({data:=(c::t).toArray}:ByteArray)[0]'(by show 0 < (c::t).toArray.size;simp)).toNat:Int) != 48))=numB (c::t):=by
 have e:(({data:=(c::t).toArray}:ByteArray)[0]'(by show 0 < (c::t).toArray.size;simp))=c:=rfl
 rw[e]
 simp only[numB,hd]
 have h2:((c.toNat:Int) != 48)= !(c==48):=by
  rw[Bool.eq_iff_iff]
  simp[bne_iff_ne,←UInt8.toNat_inj]
  omega
 rw[h2]
 by_cases hc:c=48
 ·subst hc
  cases t <;> simp
 ·simp[hc]
theorem number_calls(s:ByteArray)(w:World):Calls Tryz.prog 55 #[.string s] w fun e w'=>e=.returned (.bool (numB s.data.toList))∧Below w.heap.size w w':=by
 have hC:=fun W=>Shelf.strings_ContainsFunc 91 #[] (enters_of Tryz.func91 (by kernel_rfl) rfl) _ s W (numOther W)
 have hany:=Txt.idx_any (fun r=>decide (r < 48)||decide (57 < r)) (fun r h=>by simp;omega) s
 have hall:(s.data.toList.any fun c=>(decide (c.toNat < 48)||decide (57 < c.toNat)))= !(s.data.toList.all digit):=by
  rw[List.not_all_eq_any_not]
  congr 1;funext c
  simp only[digit,Bool.not_and,←decide_not,Nat.not_le]
 rw[hall] at hany
 rw[hany] at hC
 have HC:=Aside.mk hC
 clear hC hany hall
 cases hl:s.data.toList with
 | nil=>
  have hs:s=⟨#[]⟩:=by rw[←Txt.mk_list s,hl]
  subst hs
  go_enter Tryz.func55,Tryz.ntmps55
  go_wp2_with fail
  go_ret
  exact⟨rfl,Below.refl _ _⟩
 | cons c t=>
  have hs:s=⟨(c::t).toArray⟩:=by rw[←Txt.mk_list s,hl]
  rw[hl] at HC
  subst hs
  cases hd:(c::t).all digit with
  | false=>
   rw[hd] at HC
   have HD:=Aside.mk hd
   clear hd hl
   go_enter Tryz.func55,Tryz.ntmps55
   go_wp2_with fail
   refine(HC.out _).mono ?_
   rintro e w1 ⟨rfl,hb⟩
   go_wp2
   go_ret
   exact⟨by simp only[numB,HD.out];simp,hb⟩
  | true=>
   rw[hd] at HC
   have HD:=Aside.mk hd
   clear hd hl
   go_enter Tryz.func55,Tryz.ntmps55
   go_wp2_with fail
   refine(HC.out _).mono ?_
   rintro e w1 ⟨rfl,hb⟩
   go_wp2
   all_goals (try (exfalso;simp_all;done))
   all_goals
    go_ret
    refine⟨congrArg (fun b=>Ending.returned (Value.bool b)) ?_,hb⟩
    first
     | exact num_val c t HD.out
     | rfl
theorem all_calls(v:Value)(zs:List ByteArray)(w:World)(hv:VSlice 1 VStr w (fun _=>True) [v] zs)(hz:zs.length≤1000000000):
  Calls Tryz.prog 54 #[.func (.func 55) #[] #[],v] w fun e w'=>e=.returned (.bool (zs.all fun z=>numB z.data.toList))∧Below w.heap.size w w':=by
 obtain⟨A,c,rfl,hl,hx⟩:=hv.open
 have HX:=Aside.mk hx
 clear hx hv
 go_enter Tryz.func54,Tryz.ntmps54
 go_wp2_with fail
 go_loopg [9] zs.length (fun gk v9 wr=>∃(k:Nat),v9=.int .i64 k∧Aside (k+gk=zs.length∧(zs.take k).all (fun z=>numB z.data.toList)=true∧Below w.heap.size w wr))
 case atStart=>exact⟨0,rfl,⟨by omega,rfl,Below.refl _ _⟩⟩
 case round=>
  obtain⟨k,rfl,HI⟩:=hrel
  obtain⟨i1,i2,i3⟩:=HI.out
  clear HI
  have I2:=Aside.mk i2
  have I3:=Aside.mk i3
  clear i2 i3
  by_cases hk:k < zs.length
  ·obtain⟨m,rfl⟩:∃m,gk=m+1:=⟨gk - 1,by omega⟩
   have hki:(k:Int) < (zs.length:Int):=by omega
   obtain⟨b,o,rfl,_,hbl,hcell⟩:=HX.out (by rintro rfl;simp at hk)
   obtain⟨ws,e1,e2⟩:=hcell k zs[k] (List.getElem?_eq_getElem hk)
   have e1':ws=[.string zs[k]]:=e1
   subst e1'
   have ck:wr.cell? ⟨b,o+k,none⟩=some (.string zs[k]):=by
    have:=cell_below (e2 0 _ rfl) I3.out
    simpa using this
   have HT:=Aside.mk (show(zs.take (k+1)).all (fun z=>numB z.data.toList)=(numB zs[k].data.toList) by rw[List.take_succ_eq_append_getElem hk,List.all_append,I2.out];simp)
   have HF:=Aside.mk (show numB zs[k].data.toList=false→(zs.all fun z=>numB z.data.toList)=false by intro h;rw[List.all_eq_false];exact⟨_,List.getElem_mem hk,by simp[h]⟩)
   generalize zs[k]=z at ck HT HF
   clear e1 e2 hcell
   go_wp2_with fail
   refine(number_calls z wr).mono ?_
   rintro e w1 ⟨rfl,hb⟩
   have HB:=Aside.mk (below_then I3.out hb)
   clear hb ck
   cases hn:numB z.data.toList with
   | false=>
    have HF2:=Aside.mk (HF.out hn)
    clear hn
    go_wp2
    go_ret
    exact⟨by rw[HF2.out];rfl,HB.out⟩
   | true=>
    have HN:=Aside.mk hn
    clear hn
    go_wp2
    go_roundg m
    case measure=>omega
    case rel=>exact⟨k+1,by go_num,⟨by omega,by rw[HT.out,HN.out],HB.out⟩⟩
  ·have hk2:(zs.length:Int)≤(k:Int):=by omega
   have hk3:zs.length≤k:=by omega
   have HE:=Aside.mk (show(zs.all fun z=>numB z.data.toList)=true by rw[←I2.out,List.take_of_length_le hk3])
   clear hk
   go_wp2
   go_ret
   exact⟨by rw[HE.out];rfl,I3.out⟩
theorem key_calls(s:ByteArray)(w:World):Calls Tryz.prog 52 #[.string s] w fun e w'=>e=.returned (.bool (keyB s.data.toList))∧Below w.heap.size w w':=by
 go_enter Tryz.func52,Tryz.ntmps52
 go_wp2_with fail
 go_loopg [] s.size (fun gk wr=>Aside (∃pos:Nat,wr.heap[w.heap.size]? =some (.stringIter s pos)∧Below w.heap.size w wr∧pos+gk=s.size∧(pos=0∨keyB (s.data.toList.take pos)=true)))
 case atStart=>exact⟨⟨0,World.iter_heap w s 0,below_new _ _,by omega,.inl rfl⟩⟩
 case round=>
  obtain⟨pos,hit,hbw,hgk,hpos⟩:=hrel.out
  clear hrel
  have HB:=Aside.mk hbw
  have HP:=Aside.mk hpos
  clear hbw hpos
  by_cases hp:pos < s.size
  ·obtain⟨m,rfl⟩:∃m,gk=m+1:=⟨gk - 1,by omega⟩
   have hnx:∀ty,(Instr.next (.pointer (some ⟨w.heap.size,0,none⟩)) true ty).run Tryz.prog wr=_:=fun ty=>Lib.run_next_any_at wr w.heap.size s pos ty hit hp
   have HH:=Aside.mk (fun p'=>Lib.iterAt_heap wr w.heap.size s pos p' hit)
   have HB2:=Aside.mk (fun p'=>Lib.below_iterAt HB.out (k:=w.heap.size) (Nat.le_refl _) s p')
   have HT:=Aside.mk (Txt.take_snoc s pos hp)
   have HN:=Aside.mk (fun h:pos=0=>(show s.data.toList.take pos=[] by rw[h];rfl))
   have HQ:=Aside.mk (show pos≠0→s.data.toList.take pos≠[] by intro h e;have:=congrArg List.length e;rw[List.length_take,Txt.size_list] at this;simp only[List.length_nil] at this;omega)
   have HW:=Aside.mk (show s.data.toList=s.data.toList.take (pos+1)++s.data.toList.drop (pos+1) by rw[List.take_append_drop])
   have hdec:(s[pos].toNat < 128∧Utf8.decode s pos=(s[pos].toNat,1))∨(128≤s[pos].toNat∧128≤(Utf8.decode s pos).1):=by
    by_cases ha:s[pos].toNat < 128
    ·exact .inl ⟨ha,decode_ascii s pos hp ha⟩
    ·exact .inr ⟨by omega,(decode_high s pos hp (by omega)).1⟩
   obtain⟨r,hr⟩:∃r,(Utf8.decode s pos).1=r:=⟨_,rfl⟩
   obtain⟨wd,hwd⟩:∃wd,(Utf8.decode s pos).2=wd:=⟨_,rfl⟩
   have hdec2:(s[pos].toNat < 128∧r=s[pos].toNat∧wd=1)∨(128≤s[pos].toNat∧128≤r):=by
    rcases hdec with⟨h1,h2⟩ | ⟨h1,h2⟩
    ·rw[h2] at hr hwd;exact .inl ⟨h1,hr.symm,hwd.symm⟩
    ·rw[hr] at h2;exact .inr ⟨h1,h2⟩
   rw[hr,hwd] at hnx
   generalize s[pos]=c at HT hdec2
   clear hdec hr hwd
   have HNX:=Aside.mk hnx
   have goon:∀(h:c.toNat < 128) (hk:letter c=true∨(0 < pos∧keyRest c=true)),keyB (s.data.toList.take (pos+1))=true:=by
    intro h hk
    rw[HT.out]
    rcases Nat.eq_zero_or_pos pos with h0 | h0
    ·rw[HN.out h0]
     rcases hk with hk | ⟨hk,_⟩
     ·simp[keyB,hk]
     ·omega
    ·rw[keyB_snoc _ (HQ.out (by omega))]
     have hp1:=HP.out.resolve_left (by omega)
     rcases hk with hk | ⟨_,hk⟩
     ·simp[hp1,keyRest,hk]
     ·simp[hp1,hk]
   have ends:∀(hk:letter c=false∧(0 < pos→keyRest c=false)),keyB s.data.toList=false:=by
    intro ⟨h1,h2⟩
    rw[HW.out]
    refine keyB_false _ _ (by rw[HT.out];simp) ?_
    rw[HT.out]
    rcases Nat.eq_zero_or_pos pos with h0 | h0
    ·rw[HN.out h0];simp[keyB,h1]
    ·rw[keyB_snoc _ (HQ.out (by omega)),h2 h0];simp
   have GO:=Aside.mk goon
   have EN:=Aside.mk ends
   clear goon ends
   have hcl:(97≤r∧r≤122)∨(65≤r∧r≤90∧r < 97)∨(48≤r∧r≤57∧r < 65∧r < 97)∨(r=45)∨(122 < r)∨(90 < r∧r < 97)∨(57 < r∧r < 65∧r < 97)∨(r < 48∧r < 65∧r < 97∧r≠45):=by omega
   have hp2:(pos=0∧pos≤0∧(pos:Int)≤0)∨(0 < pos∧(0:Int) < (pos:Int)):=by omega
   rcases hcl with hcl | hcl | hcl | hcl | hcl | hcl | hcl | hcl
   ·have g0:(97:Int)≤(r:Int):=by omega
    have g1:(r:Int)≤122:=by omega
    have gn:((r:Int)==45)=false:=by simp;omega
    have HD:=Aside.mk (And.intro hdec2 hcl)
    clear hdec2 hcl
    go_wp2
    go_roundg m
    case measure=>omega
    case rel=>
     obtain⟨h1,h2,h3⟩:c.toNat < 128∧r=c.toNat∧wd=1:=by have:=HD.out;omega
     subst h3
     exact⟨⟨pos+1,HH.out _,HB2.out _,by omega,.inr (GO.out h1 (.inl (by have:=HD.out;simp[letter];omega)))⟩⟩
   ·have g0:(r:Int) < 97:=by omega
    have g1:(65:Int)≤(r:Int):=by omega
    have g2:(r:Int)≤90:=by omega
    have gn:((r:Int)==45)=false:=by simp;omega
    have HD:=Aside.mk (And.intro hdec2 hcl)
    clear hdec2 hcl
    go_wp2
    go_roundg m
    case measure=>omega
    case rel=>
     obtain⟨h1,h2,h3⟩:c.toNat < 128∧r=c.toNat∧wd=1:=by have:=HD.out;omega
     subst h3
     exact⟨⟨pos+1,HH.out _,HB2.out _,by omega,.inr (GO.out h1 (.inl (by have:=HD.out;simp[letter];omega)))⟩⟩
   ·have g0:(r:Int) < 97:=by omega
    have g1:(r:Int) < 65:=by omega
    have g2:(48:Int)≤(r:Int):=by omega
    have g3:(r:Int)≤57:=by omega
    have gn:((r:Int)==45)=false:=by simp;omega
    have HD:=Aside.mk (And.intro hdec2 hcl)
    clear hdec2 hcl
    rcases hp2 with⟨hp0,hp1,hp3⟩ | ⟨hp0,hp1⟩
    ·have HP0:=Aside.mk hp0
     clear hp0
     go_wp2
     go_ret
     refine⟨?_,HB2.out _⟩
     rw[EN.out ⟨by have:=HD.out;simp[letter];omega,fun h0=>by have:=HP0.out;omega⟩]
     rfl
    ·go_wp2
     go_roundg m
     case measure=>omega
     case rel=>
      obtain⟨h1,h2,h3⟩:c.toNat < 128∧r=c.toNat∧wd=1:=by have:=HD.out;omega
      subst h3
      exact⟨⟨pos+1,HH.out _,HB2.out _,by omega,.inr (GO.out h1 (.inr ⟨hp0,by have:=HD.out;simp[keyRest,letter,digit];omega⟩))⟩⟩
   ·have HD:=Aside.mk (And.intro hdec2 hcl)
    clear hdec2 hcl
    obtain rfl:r=45:=by have:=HD.out;omega
    rcases hp2 with⟨hp0,hp1,hp3⟩ | ⟨hp0,hp1⟩
    ·have HP0:=Aside.mk hp0
     clear hp0
     go_wp2
     go_ret
     refine⟨?_,HB2.out _⟩
     rw[EN.out ⟨by have:=HD.out;simp[letter];omega,fun h0=>by have:=HP0.out;omega⟩]
     rfl
    ·go_wp2
     go_roundg m
     case measure=>omega
     case rel=>
      obtain⟨h1,h2,h3⟩:c.toNat < 128∧45=c.toNat∧wd=1:=by have:=HD.out;omega
      subst h3
      exact⟨⟨pos+1,HH.out _,HB2.out _,by omega,.inr (GO.out h1 (.inr ⟨hp0,by have:=HD.out;simp[keyRest,letter,digit];omega⟩))⟩⟩
   ·have g0:(97:Int)≤(r:Int):=by omega
    have g1:(122:Int) < (r:Int):=by omega
    have g2:(90:Int) < (r:Int):=by omega
    have g3:(57:Int) < (r:Int):=by omega
    have gn:((r:Int)==45)=false:=by simp;omega
    have HD:=Aside.mk (And.intro hdec2 hcl)
    clear hdec2 hcl
    go_wp2
    go_ret
    refine⟨?_,HB2.out _⟩
    rw[EN.out ⟨by have:=HD.out;simp[letter];omega,fun h0=>by have:=HD.out;simp[keyRest,letter,digit];omega⟩]
    rfl
   ·have g0:(r:Int) < 97:=by omega
    have g1:(90:Int) < (r:Int):=by omega
    have g2:(57:Int) < (r:Int):=by omega
    have gn:((r:Int)==45)=false:=by simp;omega
    have HD:=Aside.mk (And.intro hdec2 hcl)
    clear hdec2 hcl
    go_wp2
    go_ret
    refine⟨?_,HB2.out _⟩
    rw[EN.out ⟨by have:=HD.out;simp[letter];omega,fun h0=>by have:=HD.out;simp[keyRest,letter,digit];omega⟩]
    rfl
   ·have g0:(r:Int) < 97:=by omega
    have g1:(r:Int) < 65:=by omega
    have g2:(57:Int) < (r:Int):=by omega
    have gn:((r:Int)==45)=false:=by simp;omega
    have HD:=Aside.mk (And.intro hdec2 hcl)
    clear hdec2 hcl
    go_wp2
    go_ret
    refine⟨?_,HB2.out _⟩
    rw[EN.out ⟨by have:=HD.out;simp[letter];omega,fun h0=>by have:=HD.out;simp[keyRest,letter,digit];omega⟩]
    rfl
   ·have g0:(r:Int) < 97:=by omega
    have g1:(r:Int) < 65:=by omega
    have g2:(r:Int) < 48:=by omega
    have gn:((r:Int)==45)=false:=by simp;omega
    have HD:=Aside.mk (And.intro hdec2 hcl)
    clear hdec2 hcl
    go_wp2
    go_ret
    refine⟨?_,HB2.out _⟩
    rw[EN.out ⟨by have:=HD.out;simp[letter];omega,fun h0=>by have:=HD.out;simp[keyRest,letter,digit];omega⟩]
    rfl
  ·have hnx:∀ty,(Instr.next (.pointer (some ⟨w.heap.size,0,none⟩)) true ty).run Tryz.prog wr=_:=fun ty=>Lib.run_next_end_at wr w.heap.size s pos ty hit hp
   have HE:=Aside.mk (show keyB s.data.toList= !s.data.toList.isEmpty by
    have hle:s.data.toList.take pos=s.data.toList:=List.take_of_length_le (by rw[Txt.size_list];omega)
    rcases HP.out with h | h
    ·rw[h] at hle;rw[←hle];rfl
    ·rw[hle] at h
     rw[h];cases hl:s.data.toList with
     | nil=>rw[hl] at h;cases h
     | cons x t=>rfl)
   go_wp2
   go_ret
   refine⟨?_,HB.out⟩
   rw[HE.out,←Txt.bl]
   rfl
theorem type_calls(s:ByteArray)(w:World)(p:Nat→Addr)(hE:Env w p):Calls Tryz.prog 19 #[.string s] w fun e w'=>e=.returned (.bool (typeB s.data.toList))∧Below w.heap.size w w':=by
 have hsz:=Txt.size_list s
 by_cases h20:s.size≤20
 ·have h20i:(s.size:Int)≤20:=by omega
  have HT:=Aside.mk (show typeB s.data.toList=(keyB s.data.toList||(s.data.toList.contains 46&&(Txt.splitOn 46 s.data.toList).all numB)) by unfold typeB;rw[hsz,decide_eq_true h20,Bool.true_and])
  have HC:=Aside.mk (Txt.index_mem 46 s.data.toList)
  have HS:=Aside.mk (Txt.split_one s 46)
  clear hsz
  go_enter Tryz.func19,Tryz.ntmps19
  go_wp2_with fail
  refine(key_calls s w).mono ?_
  rintro e w1 ⟨rfl,hb⟩
  have HB1:=Aside.mk hb
  clear hb
  cases hk:keyB s.data.toList with
  | true=>
   have HK:=Aside.mk hk
   clear hk
   go_wp2
   go_ret
   exact⟨by rw[HT.out,HK.out];rfl,HB1.out⟩
  | false=>
   have HK:=Aside.mk hk
   clear hk
   go_wp2_with fail
   have hcon:=Shelf.strings_Contains_one s 46 w1
   rw[HC.out] at hcon
   refine hcon.mono ?_
   rintro e w2 ⟨rfl,rfl⟩
   clear hcon
   cases hc:s.data.toList.contains 46 with
   | false=>
    have HC2:=Aside.mk hc
    clear hc
    go_wp2
    go_ret
    exact⟨by rw[HT.out,HK.out,HC2.out];rfl,HB1.out⟩
   | true=>
    have HC2:=Aside.mk hc
    clear hc
    obtain⟨m,hm⟩:=(hE.below HB1.out).ml
    have HM:=Aside.mk hm
    clear hm
    go_wp2_with fail
    refine(Shelf.strings_Split s ⟨#[46]⟩ m _ (by omega) HM.out (Nat.le_refl 1)).mono ?_
    rintro e w3 ⟨rfl,hw3⟩
    obtain⟨zs,hzs⟩:∃zs,splitB ⟨#[46]⟩ 0 (countB s ⟨#[46]⟩) s=zs:=⟨_,rfl⟩
    have hlen:=HS.out.2
    have hmap:=HS.out.1
    have hle:=Lib.splitB_length_le ⟨#[46]⟩ 0 (countB s ⟨#[46]⟩) s
    have hcl:countB s ⟨#[46]⟩≤s.size:=Lib.countB_le ⟨#[46]⟩ (Nat.le_refl 1) s.size s (Nat.le_refl _)
    rw[hzs] at hlen hmap hw3
    have hV:VSlice 1 VStr w3 (fun _=>True) [.slice (some ⟨w2.heap.size,0,none⟩) zs.length zs.length] zs:=by
     rw[hw3]
     refine VSlice.lit (wss:=zs.map fun z=>[.string z]) VStr.ok (by simp) ?_ ?_ trivial _ _ rfl (Nat.le_refl _)
     ·exact flat_one _ zs
     ·intro j x ws hx hw
      rw[List.getElem?_map,hx] at hw
      cases hw;rfl
    have HB3:=Aside.mk (show Below w.heap.size w w3 from below_then HB1.out (by rw[hw3];exact below_new _ _))
    have HV:=Aside.mk (all_calls _ zs w3 hV (by omega))
    have HA:=Aside.mk (show(zs.all fun z=>numB z.data.toList)=(Txt.splitOn 46 s.data.toList).all numB by rw[←hmap,List.all_map];rfl)
    rw[←hlen]
    clear hlen hmap hle hcl hV hw3 hzs
    go_wp2_with fail
    refine HV.out.mono ?_
    rintro e w4 ⟨rfl,hb⟩
    have HB4:=Aside.mk (below_then HB3.out hb)
    clear hb
    go_wp2
    go_ret
    exact⟨by rw[HT.out,HK.out,HC2.out,←HA.out];rfl,HB4.out⟩
 ·have h20i:(20:Int) < (s.size:Int):=by omega
  have HT:=Aside.mk (show typeB s.data.toList=false by unfold typeB;rw[hsz,decide_eq_false h20,Bool.false_and])
  clear hsz h20
  go_enter Tryz.func19,Tryz.ntmps19
  go_wp2_with fail
  go_ret
  exact⟨by rw[HT.out];rfl,Below.refl _ _⟩
end Go.Proofs.YtknelogmocedeaaGreatDoor.Dn
