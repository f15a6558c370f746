/- Several texts, one behind the other. tlv.told: the number of an error. Conditions: the package's variables hold their sentinels. tlv, walked: errors told. size, walked: a length's least bytes (Encode), where there are some. Conditions: lengths that may be. tlv, walked: a slice, backward; its elements as they lie. Conditions: at most 10^9 elements. tlv, walked: all trees in one, from the top, as an iterator. Conditions: at most 5 * 10^8 of them. tlv, walked: trees' bytes, which trees are right. Conditions: at most 9 * 10^8 in one. tlv, walked: trees' bytes, or what is wrong. Conditions: at most 9 * 10^8 in one. -/
import Derived.Test.YtknelogmocedeaaGreatDoorR33
import Derived.Test.YtknelogmocedeaaGreatDoorR01
import Derived.Test.YtknelogmocedeaaGreatDoorR25
import Derived.Test.YtknelogmocedeaaGreatDoorR24
import Derived.Test.YtknelogmocedeaaGreatDoorR22
import Derived.Test.YtknelogmocedeaaGreatDoorR27
namespace Go.Proofs.YtknelogmocedeaaGreatDoor.ToldTlv
open Go.RowKit
theorem is_yes(x:Value)(b:Addr)(w:World):
  Calls Tryz.prog 86 #[.iface 143 (.agg #[x,.iface 348 (.pointer (some b))]),.iface 348 (.pointer (some b))] w fun e w'=>e=.returned (.bool true)∧Below w.heap.size w w':=
 (IsTlv.is_same x b w).mono fun _ _ h=>⟨h.1,h.2 ▸ (Below.refl _ _).alloc (Nat.le_refl _) _⟩
theorem is_no(x:Value){p:Nat→Addr}{w:World}(hG:Globs w p)(a b:Nat)(ha:a∈senNums)(hb:b∈senNums)(hne:a≠b):
  Calls Tryz.prog 86 #[.iface 143 (.agg #[x,.iface 348 (.pointer (some (p a)))]),.iface 348 (.pointer (some (p b)))] w fun e w'=>e=.returned (.bool false)∧Below w.heap.size w w':=by
 obtain⟨ca,ta,h1⟩:=hG.blk a ha
 obtain⟨cb,tb,h2⟩:=hG.blk b hb
 exact(IsTlv.is_other x (p a) (p b) ca cb ta tb w (hG.inj a b ha hb hne) h1 h2).mono fun _ _ h=>⟨h.1,h.2 ▸ (Below.refl _ _).alloc (Nat.le_refl _) _⟩
set_option maxRecDepth 100000 in
theorem is_nil(b:Addr)(w:World):
  Calls Tryz.prog 86 #[.nilIface,.iface 348 (.pointer (some b))] w fun e w'=>e=.returned (.bool false)∧w=w':=by
 have hnl:=fun w=>run_eql_iface_nil_left (P:=Tryz.prog) (w:=w) 348 (.pointer (some b)) Tryz.underlying98
 go_enter Tryz.func86,Tryz.ntmps86
 go_wp2
 go_ret
 exact⟨rfl,rfl⟩
set_option maxHeartbeats 1000000 in
theorem told_len(n e:Int)(w:World)(p:Nat→Addr)(h:Globs w p):
  Calls Tryz.prog 80 #[.iface 143 (.agg #[.int .i64 n,.iface 202 (.agg #[.int .i64 e])])] w fun ev w'=>ev=.returned (.int .i64 e)∧Below w.heap.size w w':=by
 go_enter Tryz.func80,Tryz.ntmps80
 go_wp2_with fail
 have h1:Below w.heap.size w (w.alloc (.cells #[.int .i64 0] 202)):=below_new _ _
 refine(AsTlv.as_inner w.heap.size (.int .i64 0) (.int .i64 n) (.int .i64 e) _ rfl (h.below h1).et (World.alloc_heap_new w _)).mono ?_
 rintro ev w0 ⟨rfl,hb,hc⟩
 have c0:w0.cell? ⟨w.heap.size,0,none⟩=some (.int .i64 e):=cel hc 0 rfl
 have H0:=Aside.mk (h1.trans hb)
 clear h h1 hb hc
 go_wp2
 go_ret
 exact⟨rfl,H0.out⟩
set_option maxHeartbeats 1000000 in
theorem told_errShort(n:Int)(w:World)(p:Nat→Addr)(h:Globs w p):
  Calls Tryz.prog 80 #[.iface 143 (.agg #[.int .i64 n,.iface 348 (.pointer (some (p 4)))])] w fun e w'=>e=.returned (.int .i64 10)∧Below w.heap.size w w':=by
 go_enter Tryz.func80,Tryz.ntmps80
 go_wp2_with fail
 have h1:Below w.heap.size w (w.alloc (.cells #[.int .i64 0] 202)):=below_new _ _
 refine(AsTlv.as_miss w.heap.size (.int .i64 0) (.int .i64 n) _ _ (h.below h1).et (World.alloc_heap_new w _)).mono ?_
 rintro e w0 ⟨rfl,hb⟩
 have H0:=Aside.mk (below_then h1 hb)
 have h0:=h.below H0.out
 clear h h1 hb
 have k0:=h0.cell 4 (by decide)
 go_wp2_with fail
 refine(is_yes _ _ _).mono ?_
 rintro e w1 ⟨rfl,hb⟩
 have H1:=Aside.mk (below_then H0.out hb)
 have h1:=h0.below hb
 clear k0 hb H0 h0
 go_wp2
 go_ret
 exact⟨rfl,H1.out⟩
set_option maxHeartbeats 1000000 in
theorem told_errTag(n:Int)(w:World)(p:Nat→Addr)(h:Globs w p):
  Calls Tryz.prog 80 #[.iface 143 (.agg #[.int .i64 n,.iface 348 (.pointer (some (p 6)))])] w fun e w'=>e=.returned (.int .i64 20)∧Below w.heap.size w w':=by
 go_enter Tryz.func80,Tryz.ntmps80
 go_wp2_with fail
 have h1:Below w.heap.size w (w.alloc (.cells #[.int .i64 0] 202)):=below_new _ _
 refine(AsTlv.as_miss w.heap.size (.int .i64 0) (.int .i64 n) _ _ (h.below h1).et (World.alloc_heap_new w _)).mono ?_
 rintro e w0 ⟨rfl,hb⟩
 have H0:=Aside.mk (below_then h1 hb)
 have h0:=h.below H0.out
 clear h h1 hb
 have k0:=h0.cell 4 (by decide)
 go_wp2_with fail
 refine(is_no _ h0 6 4 (by decide) (by decide) (by decide)).mono ?_
 rintro e w1 ⟨rfl,hb⟩
 have H1:=Aside.mk (below_then H0.out hb)
 have h1:=h0.below hb
 clear k0 hb H0 h0
 have k0:=h1.cell 5 (by decide)
 go_wp2_with fail
 refine(is_no _ h1 6 5 (by decide) (by decide) (by decide)).mono ?_
 rintro e w2 ⟨rfl,hb⟩
 have H2:=Aside.mk (below_then H1.out hb)
 have h2:=h1.below hb
 clear k0 hb H1 h1
 have k0:=h2.cell 6 (by decide)
 go_wp2_with fail
 refine(is_yes _ _ _).mono ?_
 rintro e w3 ⟨rfl,hb⟩
 have H3:=Aside.mk (below_then H2.out hb)
 have h3:=h2.below hb
 clear k0 hb H2 h2
 go_wp2
 go_ret
 exact⟨rfl,H3.out⟩
set_option maxHeartbeats 1000000 in
theorem told_errNode(n:Int)(w:World)(p:Nat→Addr)(h:Globs w p):
  Calls Tryz.prog 80 #[.iface 143 (.agg #[.int .i64 n,.iface 348 (.pointer (some (p 0)))])] w fun e w'=>e=.returned (.int .i64 21)∧Below w.heap.size w w':=by
 go_enter Tryz.func80,Tryz.ntmps80
 go_wp2_with fail
 have h1:Below w.heap.size w (w.alloc (.cells #[.int .i64 0] 202)):=below_new _ _
 refine(AsTlv.as_miss w.heap.size (.int .i64 0) (.int .i64 n) _ _ (h.below h1).et (World.alloc_heap_new w _)).mono ?_
 rintro e w0 ⟨rfl,hb⟩
 have H0:=Aside.mk (below_then h1 hb)
 have h0:=h.below H0.out
 clear h h1 hb
 have k0:=h0.cell 4 (by decide)
 go_wp2_with fail
 refine(is_no _ h0 0 4 (by decide) (by decide) (by decide)).mono ?_
 rintro e w1 ⟨rfl,hb⟩
 have H1:=Aside.mk (below_then H0.out hb)
 have h1:=h0.below hb
 clear k0 hb H0 h0
 have k0:=h1.cell 5 (by decide)
 go_wp2_with fail
 refine(is_no _ h1 0 5 (by decide) (by decide) (by decide)).mono ?_
 rintro e w2 ⟨rfl,hb⟩
 have H2:=Aside.mk (below_then H1.out hb)
 have h2:=h1.below hb
 clear k0 hb H1 h1
 have k0:=h2.cell 6 (by decide)
 go_wp2_with fail
 refine(is_no _ h2 0 6 (by decide) (by decide) (by decide)).mono ?_
 rintro e w3 ⟨rfl,hb⟩
 have H3:=Aside.mk (below_then H2.out hb)
 have h3:=h2.below hb
 clear k0 hb H2 h2
 have k0:=h3.cell 0 (by decide)
 go_wp2_with fail
 refine(is_yes _ _ _).mono ?_
 rintro e w4 ⟨rfl,hb⟩
 have H4:=Aside.mk (below_then H3.out hb)
 have h4:=h3.below hb
 clear k0 hb H3 h3
 go_wp2
 go_ret
 exact⟨rfl,H4.out⟩
set_option maxHeartbeats 1000000 in
theorem told_nil(w:World)(p:Nat→Addr)(h:Globs w p):
  Calls Tryz.prog 80 #[.nilIface] w fun e w'=>e=.returned (.int .i64 0)∧Below w.heap.size w w':=by
 go_enter Tryz.func80,Tryz.ntmps80
 go_wp2_with fail
 have h1:Below w.heap.size w (w.alloc (.cells #[.int .i64 0] 202)):=below_new _ _
 refine(AsTlv.as_nil w.heap.size (.int .i64 0) _ (World.alloc_heap_new w _)).mono ?_
 rintro e w0 ⟨rfl,hb⟩
 have H0:=Aside.mk (below_then h1 hb)
 have h0:=h.below H0.out
 clear h h1 hb
 have k0:=h0.cell 4 (by decide)
 go_wp2_with fail
 refine(is_nil _ _).mono ?_
 rintro e w1 ⟨rfl,rfl⟩
 have h1:=h0
 have H1:=H0
 clear k0 H0 h0
 have k0:=h1.cell 5 (by decide)
 go_wp2_with fail
 refine(is_nil _ _).mono ?_
 rintro e w2 ⟨rfl,rfl⟩
 have h2:=h1
 have H2:=H1
 clear k0 H1 h1
 have k0:=h2.cell 6 (by decide)
 go_wp2_with fail
 refine(is_nil _ _).mono ?_
 rintro e w3 ⟨rfl,rfl⟩
 have h3:=h2
 have H3:=H2
 clear k0 H2 h2
 have k0:=h3.cell 0 (by decide)
 go_wp2_with fail
 refine(is_nil _ _).mono ?_
 rintro e w4 ⟨rfl,rfl⟩
 have h4:=h3
 have H4:=H3
 clear k0 H3 h3
 go_wp2
 go_ret
 exact⟨rfl,H4.out⟩
end Go.Proofs.YtknelogmocedeaaGreatDoor.ToldTlv
namespace Go.Proofs.YtknelogmocedeaaGreatDoor.Tl
open Go.RowKit Go.Shelf Go.Lib
open Fl (bl bt' bl_bt bl_of size_bl)
open Fi (one_arg)
set_option linter.unusedVariables false
variable (p : Nat → Addr)
def tErr(n:Int)(x:V):V:=.ifc 143 (.agg [.int .i64 n,x])
def shortV:V:=sen p 4
def tagV:V:=sen p 6
def nodeV:V:=sen p 0
def lenV(e:Nat):V:=.ifc 202 (.agg [.int .i64 (e:Nat)])
def teV:TE→V
 | .short=>shortV p
 | .tag=>tagV p
 | .node=>nodeV p
 | .len e=>lenV e
theorem told_nil_fn:Fn Tryz.prog (envX p) 80 [.v .nili] (.v (.int .i64 0)):=
 Fn.of_plain (enter_of (by kernel_rfl)) rfl fun w L vs hE ha=>by
  obtain⟨v,rfl,h⟩:=one_arg ha
  rw[show v=.nilIface from h]
  exact ToldTlv.told_nil w p hE.gl
theorem told_any(n:Int)(x:V)(val:Value)(hx:∀w L u,Rep w L x u→u=val)(code:Int)(hc:∀w:World,Globs w p→Calls Tryz.prog 80 #[.iface 143 (.agg #[.int .i64 n,val])] w fun e w'=>e=.returned (.int .i64 code)∧Below w.heap.size w w'):Fn Tryz.prog (envX p) 80 [.v (tErr n x)] (.v (.int .i64 code)):=
 Fn.of_plain (enter_of (by kernel_rfl)) rfl fun w L vs hE ha=>by
  obtain⟨v,rfl,h⟩:=one_arg ha
  obtain⟨u,rfl,cs,rfl,h1⟩:=h
  obtain⟨u,us,h2,_,h3,u',us',h4,_,h5,h6⟩:=h1
  have:cs=#[.int .i64 n,val]:=by
   rw[h4,show us'=[] from h6,show u=_ from h3,hx _ _ _ h5] at h2
   exact Array.toList_inj.1 h2
  rw[this]
  exact hc w hE.gl
theorem sen_val{g:Nat}{w:World}{L:Lv}{u:Value}(h:Rep w L (sen p g) u):u=.iface 348 (.pointer (some (p g))):=by
 obtain⟨u',rfl,h⟩:=h
 rw[show u'=_ from h]
theorem told_te(n:Int)(e:TE):Fn Tryz.prog (envX p) 80 [.v (tErr n (teV p e))] (.v (.int .i64 (teC e:Nat))):=by
 cases e with
 | short=>exact told_any p n _ _ (fun w L u h=>sen_val p h) 10 (fun w h=>ToldTlv.told_errShort n w p h)
 | tag=>exact told_any p n _ _ (fun w L u h=>sen_val p h) 20 (fun w h=>ToldTlv.told_errTag n w p h)
 | node=>exact told_any p n _ _ (fun w L u h=>sen_val p h) 21 (fun w h=>ToldTlv.told_errNode n w p h)
 | len e=>
  refine told_any p n _ (.iface 202 (.agg #[.int .i64 (e:Nat)])) (fun w L u h=>?_) _ (fun w h=>ToldTlv.told_len n e w p h)
  obtain⟨u,rfl,cs,rfl,u',us,h2,_,h3,h4⟩:=h
  rw[show us=[] from h4,show u'=_ from h3] at h2
  rw[show cs=#[.int .i64 (e:Nat)] from Array.toList_inj.1 h2]
theorem told_node(n:Int):Fn Tryz.prog (envX p) 80 [.v (tErr n (nodeV p))] (.v (.int .i64 21)):=told_te p n .node
end Go.Proofs.YtknelogmocedeaaGreatDoor.Tl
namespace Go.Proofs.YtknelogmocedeaaGreatDoor.Tl
open Go.RowKit Go.Shelf Go.Lib
open Fl (bl bt' bl_bt bl_of size_bl)
open Fi (encS one_arg two_args byteV_len byteV_bytes)
set_option linter.unusedVariables false
theorem sizeTold_nil(w:World):Calls Tryz.prog 183 #[.nilIface] w fun e w'=>e=.returned (.int .i64 0)∧Below w.heap.size w w':=by
 go_enter Tryz.func183,Tryz.ntmps183
 go_wp2
 go_ret
 exact⟨rfl,(Below.refl _ _).alloc (Nat.le_refl _) _⟩
theorem sizeTold_fn{X:En}:Fn Tryz.prog X 183 [.v .nili] (.v (.int .i64 0)):=
 Fn.of_plain (enter_of (by kernel_rfl)) rfl fun w L vs hE ha=>by
  obtain⟨v,rfl,h⟩:=one_arg ha
  rw[show v=.nilIface from h]
  exact sizeTold_nil w
theorem first_fn{X:En}(n:Int)(t:TypeId)(x:V):Fn Tryz.prog X 194 [.v (.int .i64 n),.v (.sl [[.bool false,.ifc t x]])] (.v .nili):=by
 refine fn_prog tabOk mixed Tryz.f194 Tryz.func194 (by kernel_rfl) (by kernel_rfl) ?_
 conv=>whnf
 refine⟨Nat,fun i=>⟨21,[(7,.v (.sl [[.bool false,.ifc t x]])),(8,.v (.int .i64 1)),(9,.v (.int .i64 (i:Nat)))],[],[]⟩,fun i=>i≤1,fun i=>1 - i,⟨0,[],by omega,?_⟩,fun i hi=>?_⟩
 ·(focus ((repeat' first|exact trivial|exact rfl|exact .inl rfl|exact .inr ⟨rfl,rfl⟩|refine And.intro ?_ ?_);done))
 conv=>whnf
 refine⟨rfl,cmp_split (fun h=>?_) (fun h=>?_)⟩
 ·obtain rfl:i=0:=by omega
  conv=>whnf
  refine⟨_,by omega,rfl,rfl,?_⟩
  conv=>whnf
  refine⟨rfl,st_succ (by omega) ?_⟩
  conv=>whnf
  refine⟨1,[],by omega,by dsimp only;omega,?_⟩
  (focus ((repeat' first|exact trivial|exact rfl|exact .inl rfl|exact .inr ⟨rfl,rfl⟩|refine And.intro ?_ ?_);done))
 ·conv=>whnf
  exact⟨.inl rfl,rfl⟩
def partsL:Nat→Nat→List UInt8
 | 0,_=>[]
 | f+1,n=>if n=0 then [] else UInt8.ofNat (n % 256)::partsL f (n / 256)
theorem partsL_succ(f m:Nat):partsL (f+1) m=if m=0 then [] else UInt8.ofNat (m % 256)::partsL f (m / 256):=rfl
theorem u8_wrap(n:Nat):IntKind.u8.wrap ((n:Nat):Int)=(((UInt8.ofNat n).toNat:Nat):Int):=by
 rw[UInt8.toNat_ofNat']
 show((n:Nat):Int) % 256=_
 omega
theorem parts_it{X:En}(n:Nat)(hn:n≤16777215):ItM Tryz.prog X 203 [[.v (.int .i64 (n:Nat))]] [.ptr 0 0] ((partsL 4 n).map fun b=>[.int .u8 b.toNat]) [[.v (.int .i64 0)]]:=by
 refine itM_prog tabOk mixed Tryz.f203 Tryz.func203 (by kernel_rfl) (by kernel_rfl) (by kernel_rfl) rfl rfl rfl rfl fun k hE=>?_
 generalize hg:partsL 4 n=ps
 have hg0:ps.drop 0=partsL 4 n:=by rw[hg];rfl
 conv=>whnf
 refine⟨[],trivial,rfl,Nat×Nat,fun q=>⟨13,[(0,.v (.raw (.func (.yield k.l0) #[] #[]))),(1,.ptr 13 0)],[(13,[.v (.int .i64 (q.2:Nat))])],[]⟩,fun q=>some q.1,fun q=>(q.1≤3∧q.1≤ps.length)∧q.2 < 256 ^ (3 - q.1)∧ps.drop q.1=partsL (4 - q.1) q.2,fun q=>q.2,⟨(0,n),[],⟨⟨by omega,by omega⟩,by show n < 256 ^ 3;omega,hg0⟩,rfl,?_⟩,fun⟨i,m⟩ ⟨⟨h1,h0⟩,h2,h3⟩=>?_⟩
 ·(focus ((repeat' first|exact trivial|exact rfl|exact .inl rfl|exact .inr ⟨rfl,rfl⟩|refine And.intro ?_ ?_);done))
 clear hg hg0
 dsimp only at h0 h1 h2 h3
 conv=>whnf
 refine⟨rfl,cmp_split (fun h=>?_) (fun h=>?_)⟩
 ·have hm:m≠0:=by omega
  have hi:i < 3:=by
   rcases Nat.lt_or_ge i 3 with h | h
   ·exact h
   ·rw[show 3 - i=0 by omega] at h2;omega
  have hm2:m < 16777216:=Nat.lt_of_lt_of_le h2 (Nat.le_trans (Nat.pow_le_pow_right (by omega) (show 3 - i≤3 by omega)) (by decide))
  rw[show 4 - i=(3 - i)+1 by omega,partsL_succ,if_neg hm] at h3
  have hil:i < ps.length:=by
   rcases Nat.lt_or_ge i ps.length with h | h
   ·exact h
   ·rw[List.drop_eq_nil_of_le h] at h3;cases h3
  have hy:(ps.map fun b=>[V.int .u8 b.toNat])[i]? =some [.int .u8 (UInt8.ofNat (m % 256)).toNat]:=by
   rw[List.getElem?_map,←List.head?_drop,h3];rfl
  have h4:ps.drop (i+1)=partsL (4 - (i+1)) (m / 256):=by
   rw[←List.drop_drop,h3,show 4 - (i+1)=3 - i by omega];rfl
  conv=>whnf
  refine st_mod m 256 (by omega) ?_
  conv=>whnf
  refine⟨_,u8_wrap (m % 256),?_⟩
  conv=>whnf
  refine⟨7,_,_,[],_,rfl,rfl,rfl,hy,.inr ⟨rfl,rfl,rfl⟩,?_,?_⟩
  ·conv=>whnf
   refine st_div m 256 (by omega) (by omega) ?_
   conv=>whnf
   refine⟨(i+1,m / 256),[],⟨⟨by dsimp only;omega,by dsimp only;omega⟩,?_,h4⟩,rfl,by dsimp only;omega,?_⟩
   ·dsimp only
    rw[Nat.div_lt_iff_lt_mul (by omega),←Nat.pow_succ,show(3 - (i+1)).succ=3 - i by omega];exact h2
   ·(focus ((repeat' first|exact trivial|exact rfl|exact .inl rfl|exact .inr ⟨rfl,rfl⟩|refine And.intro ?_ ?_);done))
  ·conv=>whnf
   exact .inl rfl
 ·have hm:m=0:=by omega
  subst hm
  have:ps.length≤i:=by
   refine List.drop_eq_nil_iff.1 ?_
   rw[h3,show 4 - i=(3 - i)+1 by omega,partsL_succ,if_pos rfl]
  conv=>whnf
  refine .inr ⟨?_,?_⟩
  ·rw[List.length_map];exact congrArg some (by dsimp only;omega)
  ·(focus ((repeat' first|exact trivial|exact rfl|exact .inl rfl|exact .inr ⟨rfl,rfl⟩|refine And.intro ?_ ?_);done))
theorem lay_fn{X:En}(l:List UInt8)(b:UInt8)(hx:l.length≤1000):FnM Tryz.prog X 195 [[.v (.sl (l.map byteV))]] [.v (.int .u8 (b.toNat:Nat)),.ptr 0 0] (.tup []) [[.v (.sl ((b::l).map byteV))]]:=by
 refine fnM_prog tabOk mixed Tryz.f195 Tryz.func195 (by kernel_rfl) (by kernel_rfl) rfl rfl rfl rfl ?_
 conv=>whnf
 refine st_app (by simp;omega) (byteV_len l) rfl ?_
 conv=>whnf
 (focus ((repeat' first|exact trivial|exact rfl|exact .inl rfl|exact .inr ⟨rfl,rfl⟩|refine And.intro ?_ ?_);done))
theorem parts_be(n:Nat)(h1:1≤n)(h2:n≤16777215):(partsL 4 n).reverse=be n:=by
 unfold be
 by_cases a:n < 256
 ·rw[if_pos a]
  have e1:n / 256=0:=by omega
  have e2:n % 256=n:=by omega
  simp[partsL,e1,e2,show n≠0 by omega]
 ·rw[if_neg a]
  by_cases b:n < 65536
  ·rw[if_pos b]
   have e1:n / 256 / 256=0:=by omega
   have e2:n / 256 % 256=n / 256:=by omega
   simp[partsL,e1,e2,show n≠0 by omega,show n / 256≠0 by omega]
  ·rw[if_neg b]
   have e1:n / 256 / 256 / 256=0:=by omega
   have e2:n / 256 / 256 % 256=n / 65536:=by omega
   simp[partsL,e1,e2,show n≠0 by omega,show n / 256≠0 by omega,show n / 256 / 256≠0 by omega]
variable (p : Nat → Addr)
theorem partsL_len:∀f n:Nat,(partsL f n).length≤f
 | 0,_=>Nat.le_refl _
 | f+1,n=>by
  rw[partsL_succ]
  split
  ·exact Nat.zero_le _
  ·rw[List.length_cons];exact Nat.succ_le_succ (partsL_len f _)
theorem encoded_fn(n:Nat)(h:n≤16777215):Fn Tryz.prog (envX p) 182 [.v (.int .i64 (n:Nat))] (.tup [.v (.str (bt' (szL n))),.v .nili]):=by
 have hpl:=partsL_len 4 n
 refine fn_prog tabOk mixed Tryz.f182 Tryz.func182 (by kernel_rfl) (by kernel_rfl) ?_
 conv=>whnf
 refine⟨rfl,cmp_false (by omega) ?_⟩
 conv=>whnf
 refine⟨rfl,cmp_false (by omega) ?_⟩
 conv=>whnf
 refine⟨sen p 11,⟨by decide,rfl⟩,?_⟩
 conv=>whnf
 refine st_call (first_fn (n:Nat) _ _) ⟨.inl rfl,rfl,trivial⟩ rfl rfl ?_
 conv=>whnf
 refine⟨rfl,cmp_split (fun h1=>?_) (fun h1=>?_)⟩
 ·conv=>whnf
  refine⟨_,u8_wrap n,?_⟩
  conv=>whnf
  refine⟨[UInt8.ofNat (UInt8.ofNat n).toNat],rfl,?_⟩
  conv=>whnf
  exact⟨⟨.inl (by rw[show szL n=[UInt8.ofNat n] from by unfold szL;rw[if_pos (by omega)]];simp[bt',show n % 256=n by omega]),.inl rfl,trivial⟩,rfl⟩
 ·conv=>whnf
  refine st_callN [4] (r:=.fn 203 [.ptr 4 0]) (bs':=[(4,[.v (.int .i64 (n:Nat))]),(6,[.fn 195 [.ptr 5 0]]),(5,[.v .nils])]) (lv':=[]) (args:=[.v (.int .i64 (n:Nat))]) ?_ ?_ ?_ ?_
  ·refine fnI_prog tabOk mixed Tryz.f196 [(4,1)] (upN 4) Tryz.func196 (by kernel_rfl) (by kernel_rfl) rfl rfl ?_
   conv=>whnf
   (focus ((repeat' first|exact trivial|exact rfl|exact .inl rfl|exact .inr ⟨rfl,rfl⟩|refine And.intro ?_ ?_);done))
  ·exact⟨.inl rfl,trivial⟩
  ·rfl
  ·conv=>whnf
   refine⟨[4],[[.v (.int .i64 (n:Nat))]],[[.v (.int .i64 (n:Nat))]],[.ptr 0 0],_,_,none,fun i=>⟨43,[(5,.ptr 5 0),(6,.ptr 6 0)],[(5,[.v (.sl (((partsL 4 n).take i).reverse.map byteV))]),(6,[.fn 195 [.ptr 5 0]])],[]⟩,fun i=>i≤(partsL 4 n).length,parts_it n h,rfl,rfl,⟨⟨⟨.inl rfl,rfl⟩,trivial⟩,trivial⟩,⟨⟨rfl,rfl⟩,trivial⟩,trivial,⟨Nat.zero_le _,[],?_⟩,fun i=>⟨rfl,trivial⟩,fun i=>rfl,(show ∀p∈[31],p < 43 by decide),fun i v hv hi=>?_,fun hi=>?_⟩
   ·(focus ((repeat' first|exact trivial|exact rfl|exact .inl rfl|exact .inr ⟨rfl,rfl⟩|refine And.intro ?_ ?_);done))
   ·rw[List.getElem?_map] at hv
    obtain⟨b,hb,rfl⟩:=Option.map_eq_some_iff.1 hv
    obtain⟨hil,hb⟩:=List.getElem?_eq_some_iff.1 hb
    have hz:b::((partsL 4 n).take i).reverse=((partsL 4 n).take (i+1)).reverse:=by
     rw[List.take_succ_eq_append_getElem hil,hb,List.reverse_append];rfl
    refine⟨rfl,?_⟩
    conv=>whnf
    (refine st_callM [5] ((lay_fn ((partsL 4 n).take i).reverse b (by simp;omega))) rfl ?_ ?_ rfl ?_;(focus ((repeat' first|exact trivial|exact rfl|exact .inl rfl|exact .inr ⟨rfl,rfl⟩|refine And.intro ?_ ?_);done));(focus ((repeat' first|exact trivial|exact rfl|exact .inl rfl|exact .inr ⟨rfl,rfl⟩|refine And.intro ?_ ?_);done));conv=>whnf)
    refine⟨by show i+1≤_;omega,[],?_⟩
    dsimp only
    rw[←hz]
    (focus ((repeat' first|exact trivial|exact rfl|exact .inl rfl|exact .inr ⟨rfl,rfl⟩|refine And.intro ?_ ?_);done))
   ·conv=>whnf
    have e1:(((partsL 4 n).map fun b=>[V.int .u8 (b.toNat:Nat)]).length)=(partsL 4 n).length:=List.length_map _
    have e2:(((partsL 4 n).take (partsL 4 n).length).reverse.map byteV).length=(partsL 4 n).length:=by simp
    rw[e1,e2]
    refine st_add 128 (partsL 4 n).length (by omega) ?_
    conv=>whnf
    refine⟨_,u8_wrap _,?_⟩
    conv=>whnf
    (refine st_callM [5] ((lay_fn ((partsL 4 n).take (partsL 4 n).length).reverse (UInt8.ofNat (128+(partsL 4 n).length)) (by simp;omega))) rfl ?_ ?_ rfl ?_;(focus ((repeat' first|exact trivial|exact rfl|exact .inl rfl|exact .inr ⟨rfl,rfl⟩|refine And.intro ?_ ?_);done));(focus ((repeat' first|exact trivial|exact rfl|exact .inl rfl|exact .inr ⟨rfl,rfl⟩|refine And.intro ?_ ?_);done));conv=>whnf)
    refine⟨_,byteV_bytes (UInt8.ofNat (128+(partsL 4 n).length)::((partsL 4 n).take (partsL 4 n).length).reverse),?_⟩
    conv=>whnf
    refine⟨⟨.inl (congrArg (fun x=>V.str (bt' x)) ?_),.inl rfl,trivial⟩,rfl⟩
    unfold szL
    rw[if_neg (by omega),←parts_be n (by omega) h,List.length_reverse,List.take_length]
theorem encode_fn(n:Nat)(h:n≤16777215):Fn Tryz.prog (envX p) 153 [.v (.int .i64 (n:Nat))] (.tup [.v (.str (bt' (szL n))),.v (.int .i64 0)]):=by
 refine fn_prog tabOk mixed Tryz.f153 Tryz.func153 (by kernel_rfl) (by kernel_rfl) ?_
 conv=>whnf
 (refine st_call (encoded_fn p n h) ?_ rfl rfl ?_;(focus ((repeat' first|exact trivial|exact rfl|exact .inl rfl|exact .inr ⟨rfl,rfl⟩|refine And.intro ?_ ?_);done));conv=>whnf)
 (refine st_call sizeTold_fn ?_ rfl rfl ?_;(focus ((repeat' first|exact trivial|exact rfl|exact .inl rfl|exact .inr ⟨rfl,rfl⟩|refine And.intro ?_ ?_);done));conv=>whnf)
 exact⟨⟨.inl rfl,.inl rfl,trivial⟩,rfl⟩
end Go.Proofs.YtknelogmocedeaaGreatDoor.Tl
namespace Go.Proofs.YtknelogmocedeaaGreatDoor.Tl
open Go.RowKit Go.Shelf Go.Lib
open Fl (bl bt' bl_bt bl_of size_bl)
set_option linter.unusedVariables false
variable {X : En}
structure V3 where
 a:Value
 b:Value
 c:Value
def e3(u:V3):List V:=[.raw u.a,.raw u.b,.raw u.c]
def l3(u:V3):List Value:=[u.a,u.b,u.c]
theorem backward_fn(xs:List (List V)):Fn Tryz.prog X 177 [.v (.sl xs)] (.fn 191 [.ro [.sl xs]]):=by
 refine fnP_prog tabOk mixed Tryz.f177 Tryz.func177 (by kernel_rfl) (by kernel_rfl) (by kernel_rfl) ?_
 conv=>whnf
 exact⟨rfl,⟨_,rfl,rfl⟩,trivial⟩
def bwY(l:List V3):List (List V):=l.zipIdx.reverse.map fun q=>[.int .i64 (q.2:Nat),.agg (e3 q.1)]
theorem bwY_get(l:List V3)(j:Nat)(h:1≤j)(hj:j≤l.length):(bwY l)[l.length - j]? =some [.int .i64 ((j - 1:Nat):Int),.agg (e3 (l[j - 1]'(by omega)))]:=by
 unfold bwY
 rw[List.getElem?_map,List.getElem?_reverse (by rw[List.length_zipIdx];omega),List.length_zipIdx,List.getElem?_zipIdx,show l.length - 1 - (l.length - j)=j - 1 by omega,List.getElem?_eq_getElem (by omega)]
 simp
theorem backward_it(l:List V3)(hl:l.length≤1000000000):It Tryz.prog X 191 [.ro [.sl (l.map e3)]] (bwY l):=by
 refine it_prog tabOk mixed Tryz.f191 Tryz.func191 (by kernel_rfl) (by kernel_rfl) (by kernel_rfl) fun k cvs hE hL0 hcv=>⟨_,hcv,rfl,by kernel_rfl,?_⟩
 have hyl:(bwY l).length=l.length:=by unfold bwY;simp
 conv=>whnf
 refine⟨rfl,(l.length:Int) - 1,by rw[List.length_map];exact wrap64 (by omega) (by omega),?_⟩
 conv=>whnf
 refine⟨[],trivial,rfl,Nat,fun j=>⟨19,[(0,.v (.raw (.func (.yield k.l0) #[] #[]))),(1,.ro [.sl (l.map e3)]),(3,.v (.int .i64 (((j:Nat):Int) - 1)))],[],[]⟩,fun j=>some (l.length - j),fun j=>j≤l.length,fun j=>j,⟨l.length,[],Nat.le_refl _,by simp,?_⟩,fun j hj=>?_⟩
 ·exact⟨rfl,rfl,⟨.inl rfl,rfl,.inl rfl,trivial⟩,trivial,trivial⟩
 conv=>whnf
 refine⟨rfl,cmp_split (fun h=>?_) (fun h=>?_)⟩
 ·have hj1:1≤j:=by omega
  conv=>whnf
  refine⟨e3 (l[j - 1]'(by omega)),by omega,by rw[show((j:Int) - 1).toNat=j - 1 by omega,List.getElem?_map,List.getElem?_eq_getElem (by omega)];rfl,rfl,?_⟩
  conv=>whnf
  refine⟨11,_,_,[],⟨19,[(0,.v (.raw (.func (.yield k.l0) #[] #[]))),(1,.ro [.sl (l.map e3)]),(3,.v (.int .i64 (((j:Nat):Int) - 1)))],[],[]⟩,rfl,rfl,rfl,?_,.inl ⟨.inl ⟨rfl,.inl rfl⟩,⟨rfl,⟨.inl ⟨rfl,.inl rfl⟩,.inr rfl,.inl ⟨rfl,.inl rfl⟩,trivial⟩,trivial,trivial,rfl⟩⟩,?_,?_⟩
  ·rw[bwY_get l j hj1 hj,show(((j - 1:Nat):Int))=(j:Int) - 1 by omega];rfl
  ·conv=>whnf
   refine⟨rfl,((j - 1:Nat):Int) - 1,(by rw[show((j:Int) - 1 - 1)=((j - 1:Nat):Int) - 1 by omega];exact wrap64 (by omega) (by omega)),?_⟩
   conv=>whnf
   refine⟨j - 1,[],by dsimp only;omega,by dsimp only;congr 1;omega,by dsimp only;omega,?_⟩
   exact⟨rfl,rfl,⟨.inl rfl,rfl,.inl rfl,trivial⟩,trivial,trivial⟩
  ·conv=>whnf
   exact .inr rfl
 ·conv=>whnf
  have:j=0:=by omega
  subst this
  exact .inl (by rw[hyl];rfl)
end Go.Proofs.YtknelogmocedeaaGreatDoor.Tl
namespace Go.Proofs.YtknelogmocedeaaGreatDoor.Tl
open Go.RowKit Go.Shelf Go.Lib
open Fl (bl bt' bl_bt bl_of size_bl)
open Fi (one_arg)
set_option linter.unusedVariables false
variable {X : En}
structure El where
 d:Nat
 x:Nd
 u:V3
def encR(q:El):List V:=e3 q.u
def encD(q:El):List V:=[.int .i64 (q.d:Nat)]
theorem cells3{w:World}{L:Lv}{b o:Nat}{x:Nd}(h:RepC w L b o (cM x)):∃u:V3,RepL w L (cM x) (l3 u)∧RepC w L b o (e3 u):=by
 obtain⟨⟨u0,a0,b0,c0,d0⟩,⟨u1,a1,b1,c1,d1⟩,⟨u2,a2,b2,c2,d2⟩,_⟩:=h
 exact⟨⟨u0,u1,u2⟩,⟨u0,_,rfl,c0,d0,u1,_,rfl,c1,d1,u2,_,rfl,c2,d2,rfl⟩,
  ⟨u0,a0,b0,Rep.one_val c0 d0,rfl⟩,⟨u1,a1,b1,Rep.one_val c1 d1,rfl⟩,⟨u2,a2,b2,Rep.one_val c2 d2,rfl⟩,trivial⟩
theorem kidsE{w:World}{L:Lv}{b e:Nat}(d:Nat):∀(l:List Nd) (o:Nat),RepE w L b e o (l.map cN)→∃ks:List El,ks.map El.x=l∧(∀q∈ks,q.d=d∧RepL w L (cM q.x) (l3 q.u))∧RepE w L b e o ((ks.map El.u).map e3)
 | [],o,h=>⟨[],rfl,fun q hq=>(by cases hq),trivial⟩
 | x::r,o,⟨h1,h2,h3⟩=>by
  obtain⟨ks,k1,k2,k3⟩:=kidsE d r (o+e) h3
  rw[cM_eq] at h1 h2
  obtain⟨u,r1,r2⟩:=cells3 h2
  refine⟨⟨d,x,u⟩::ks,by rw[List.map_cons,k1],fun q hq=>?_,⟨h1,r2,k3⟩⟩
  rcases List.mem_cons.1 hq with rfl | hq
  ·exact⟨rfl,r1⟩
  ·exact k2 q hq
theorem kids_of{w:World}{L:Lv}(d:Nat){l:List Nd}{v:Value}(h:Rep w L (.sl (l.map cN)) v):∃ks:List El,ks.map El.x=l∧(∀q∈ks,q.d=d∧RepL w L (cM q.x) (l3 q.u))∧Rep w L (.sl ((ks.map El.u).map e3)) v:=by
 obtain⟨A,c,hv,hle,hne⟩:=h
 by_cases hl:l=[]
 ·subst hl
  exact⟨[],rfl,fun q hq=>(by cases hq),A,c,hv,hle,fun hn=>absurd rfl hn⟩
 ·obtain⟨b,o,e,hA,hr⟩:=hne (by simpa using hl)
  obtain⟨ks,k1,k2,k3⟩:=kidsE d l o hr
  have hlen:((ks.map El.u).map e3).length=(l.map cN).length:=by rw[←k1];simp
  exact⟨ks,k1,k2,A,c,by rw[hlen];exact hv,by rw[hlen];exact hle,fun _=>⟨b,o,e,hA,k3⟩⟩
theorem st_lastR{s0:List El}{q:El}{K:List V→Prop}(hK:K (encR q)):∃c,(0:Int)≤(s0.length:Nat)∧((s0++[q]).map encR)[((s0.length:Nat):Int).toNat]? =some c∧c.length=3∧K c:=
 ⟨encR q,by omega,by rw[Int.toNat_natCast,List.getElem?_map,List.getElem?_append_right (Nat.le_refl _),Nat.sub_self];rfl,rfl,hK⟩
theorem st_lastD{s0:List El}{q:El}{K:List V→Prop}(hK:K (encD q)):∃c,(0:Int)≤(s0.length:Nat)∧((s0++[q]).map encD)[((s0.length:Nat):Int).toNat]? =some c∧c.length=1∧K c:=
 ⟨encD q,by omega,by rw[Int.toNat_natCast,List.getElem?_map,List.getElem?_append_right (Nat.le_refl _),Nat.sub_self];rfl,rfl,hK⟩
theorem st_appR{s:List El}(q:El){K:List (List V)→Prop}(h:s.length+1≤1000000000)(hK:K ((s++[q]).map encR)):(s.map encR).length+[encR q].length≤1000000000∧(∀c∈[encR q],c.length=3)∧∃zs,s.map encR++[encR q]=zs∧K zs:=
 st_app (by simpa using h) (fun c hc=>by rw[List.mem_singleton.1 hc];rfl) (by rw[List.map_append];rfl) hK
theorem st_appD{s:List El}(q:El){K:List (List V)→Prop}(h:s.length+1≤1000000000)(hK:K ((s++[q]).map encD)):(s.map encD).length+[encD q].length≤1000000000∧(∀c∈[encD q],c.length=1)∧∃zs,s.map encD++[encD q]=zs∧K zs:=
 st_app (by simpa using h) (fun c hc=>by rw[List.mem_singleton.1 hc];rfl) (by rw[List.map_append];rfl) hK
def flatS(s:List El):List (Nat×Nd):=s.reverse.flatMap fun q=>preN q.d q.x
theorem preNs_map:∀(l:List Nd) (d:Nat),preNs d l=l.flatMap (preN d)
 | [],_=>rfl
 | x::r,d=>by rw[preNs,List.flatMap_cons,preNs_map r d]
theorem preN_cons:∀(d:Nat) (x:Nd),preN d x=(d,x)::preNs (d+1) x.kids
 | d,.mk t x k=>rfl
theorem flatS_snoc(s:List El)(q:El):flatS (s++[q])=(q.d,q.x)::(preNs (q.d+1) q.x.kids++flatS s):=by
 unfold flatS
 rw[List.reverse_append,List.reverse_singleton,List.singleton_append,List.flatMap_cons,preN_cons]
 rfl
theorem flatS_kids(s ks:List El)(d:Nat)(l:List Nd)(h1:ks.map El.x=l)(h2:∀q∈ks,q.d=d):flatS (s++ks.reverse)=preNs d l++flatS s:=by
 unfold flatS
 rw[List.reverse_append,List.reverse_reverse,List.flatMap_append,preNs_map,←h1]
 congr 1
 clear h1
 induction ks with
 | nil=>rfl
 | cons q r ih=>
  rw[List.flatMap_cons,List.map_cons,List.flatMap_cons,ih (fun q' hq=>h2 q' (by simp[hq])),h2 q (by simp)]
theorem flatS_len:∀s:List El,s.length≤(flatS s).length:=fun s=>by
 have:∀t:List El,t.length≤(t.flatMap fun q=>preN q.d q.x).length:=by
  intro t
  induction t with
  | nil=>exact Nat.le_refl _
  | cons q r ih=>rw[List.flatMap_cons,List.length_append,preN_cons,List.length_cons,List.length_cons];omega
 unfold flatS
 have h:=this s.reverse
 rwa [List.length_reverse] at h
theorem pre_le:∀(ks:List El) (d:Nat),∀q∈ks,(preN d q.x).length≤((ks.map El.x).flatMap (preN d)).length
 | [],_,q,hq=>by cases hq
 | k::r,d,q,hq=>by
  rw[List.map_cons,List.flatMap_cons,List.length_append]
  rcases List.mem_cons.1 hq with rfl | hq
  ·omega
  ·have:=pre_le r d q hq;omega
theorem bwK_get(ks:List El)(j:Nat)(hj:j < ks.length):(bwY (ks.map El.u))[j]? =some [.int .i64 ((ks.length - 1 - j:Nat):Int),.agg (e3 (ks.reverse[j]'(by simpa using hj)).u)]:=by
 unfold bwY
 rw[List.getElem?_map,List.getElem?_reverse (by rw[List.length_zipIdx,List.length_map];exact hj),List.length_zipIdx,List.length_map,List.getElem?_zipIdx,List.getElem?_map,List.getElem?_eq_getElem (show ks.length - 1 - j < ks.length by omega),List.getElem_reverse]
 simp
def preY(f:Nd):List (List V):=(preN 1 f).map fun q=>[.int .i64 (q.1:Nat),.agg (cM q.2)]
theorem known_args{k:Ky}{d:Nat}{x:Nd}{u:V3}(h:RepL k.w0 k.L0 (cM x) (l3 u))(us:List Value)(hu:RepW k.w0 k.L0 [.int .i64 (d:Nat),.agg (e3 u)] us):RepW k.w0 k.L0 [.int .i64 (d:Nat),.agg (cM x)] us:=by
 obtain⟨v1,us1,rfl,h1,v2,us2,rfl,⟨cs,rfl,hc⟩,h3⟩:=hu
 obtain⟨a0,t0,e0,_,r0,a1,t1,rfl,_,r1,a2,t2,rfl,_,r2,r6⟩:=hc
 rw[show a0=u.a from r0,show a1=u.b from r1,show a2=u.c from r2,show t2=[] from r6] at e0
 exact⟨_,_,rfl,h1,_,_,rfl,⟨cs,rfl,by rw[e0];exact h⟩,h3⟩
set_option maxHeartbeats 4000000 in
theorem trees_it(f:Nd)(hN:(preN 1 f).length≤900000000):It Tryz.prog X 176 [.ro (cM f)] (preY f):=by
 refine it_prog (Fi.tab_sub tabOk) mixed Tryz.f176 Tryz.func176 (by kernel_rfl) (by kernel_rfl) (by kernel_rfl) fun k cvs hE hL0 hcv=>?_
 obtain⟨v0,rfl,b,o,rfl,hcell⟩:=one_arg hcv
 obtain⟨u,hu1,hu2⟩:=cells3 hcell
 refine⟨[.ro (e3 u)],⟨_,_,rfl,⟨b,o,rfl,hu2⟩,rfl⟩,rfl,by kernel_rfl,?_⟩
 conv=>whnf
 refine⟨[],trivial,rfl,Nat×List El,fun z=>⟨52,[(0,.v (.raw (.func (.yield k.l0) #[] #[]))),(3,.ptr 3 0),(4,.ptr 4 0)],[(3,[.own 11 29 (z.2.map encR)]),(4,[.own 12 3 (z.2.map encD)])],[(11,some 29),(12,some 3)]⟩,fun z=>some z.1,fun z=>z.1≤(preN 1 f).length∧(preN 1 f).drop z.1=flatS z.2∧∀q∈z.2,q.d+(preN q.d q.x).length≤1000000000∧RepL k.w0 k.L0 (cM q.x) (l3 q.u),fun z=>(preN 1 f).length - z.1,⟨(0,[⟨1,f,u⟩]),[(11,some 11),(12,some 12)],⟨Nat.zero_le _,by rw[List.drop_zero];simp[flatS],fun q hq=>by rw[List.mem_singleton.1 hq];exact⟨by dsimp only;omega,hu1⟩⟩,rfl,?_⟩,fun z ⟨hz1,hz2,hz3⟩=>?_⟩
 ·(focus ((repeat' first|exact trivial|exact rfl|exact .inl rfl|exact .inr ⟨rfl,rfl⟩|refine And.intro ?_ ?_);done))
 obtain⟨i,s⟩:=z
 dsimp only at hz1 hz2 hz3
 have hsl:s.length≤900000000:=by
  have h1:=flatS_len s
  rw[←hz2,List.length_drop] at h1
  omega
 conv=>whnf
 refine⟨rfl,cmp_split (fun h=>?_) (fun h=>?_)⟩
 rotate_left
 ·conv=>whnf
  have hs0:s=[]:=by
   cases s with
   | nil=>rfl
   | cons a r=>exact absurd h (by simp)
  subst hs0
  have hd0:(preN 1 f).drop i=[]:=hz2
  have:(preN 1 f).length≤i:=List.drop_eq_nil_iff.1 hd0
  exact .inl (by rw[show(preY f).length=i from by unfold preY;rw[List.length_map];omega])
 rcases List.eq_nil_or_concat s with rfl | ⟨s0,q,hsq⟩
 ·exact absurd h (by simp)
 rw[List.concat_eq_append] at hsq
 subst hsq
 rw[flatS_snoc] at hz2
 obtain⟨hqd,hqu⟩:=hz3 q (by simp)
 rw[preN_cons,List.length_cons] at hqd
 have hlast:((s0++[q]).map encR).length - 1=s0.length:=by simp
 have hkids:Rep k.w0 k.L0 (.sl (q.x.kids.map cN)) q.u.c:=by
  obtain⟨a0,t0,e0,_,r0,a1,t1,rfl,_,r1,a2,t2,rfl,_,r2,r6⟩:=hqu
  unfold l3 at e0
  injection e0 with _ e0
  injection e0 with _ e0
  injection e0 with e0 _
  rw[e0];exact r2
 obtain⟨ks,hk1,hk2,hk3⟩:=kids_of (q.d+1) hkids
 have hil:i < (preN 1 f).length:=by
  rcases Nat.lt_or_ge i (preN 1 f).length with h1 | h1
  ·exact h1
  ·rw[List.drop_eq_nil_of_le h1] at hz2;cases hz2
 have hyi:(preY f)[i]? =some [.int .i64 (q.d:Nat),.agg (cM q.x)]:=by
  unfold preY
  rw[List.getElem?_map,←List.head?_drop,hz2]
  rfl
 have hdrop:(preN 1 f).drop (i+1)=flatS (s0++ks.reverse):=by
  rw[flatS_kids s0 ks (q.d+1) q.x.kids hk1 (fun q' hq'=>(hk2 q' hq').1),←List.drop_drop,hz2]
  rfl
 have hkn:ks.length≤900000000∧s0.length+ks.length≤900000000:=by
  have h1:=flatS_len (s0++ks.reverse)
  rw[←hdrop,List.length_drop,List.length_append,List.length_reverse] at h1
  omega
 conv=>whnf
 refine st_minus ((s0++[q]).map encR).length 1 (by simp) (by simp;omega) ?_
 rw[hlast]
 conv=>whnf
 (refine⟨some [9999],by kernel_rfl,⟨(.one 0 (.one 1 (.one 2 (.one 3 (.one 5 (.or (.or (.one 4 (.one 6 (.one 3007 (.or (.one 8 (.one 9 (.one 10 (.one 11 .nil)))) (.one 9 (.one 8 (.one 10 (.one 11 .nil)))))))) (.one 8 (.or (.one 4 (.one 6 (.one 3007 (.one 9 (.one 10 (.one 11 .nil)))))) (.one 9 (.or (.one 4 (.one 6 (.one 3007 (.one 10 (.one 11 .nil))))) (.one 10 (.one 4 (.one 6 (.one 7 (.one 11 .nil)))))))))) (.one 9 (.or (.one 4 (.one 6 (.one 3007 (.one 8 (.one 10 (.one 11 .nil)))))) (.one 8 (.or (.one 4 (.one 6 (.one 3007 (.one 10 (.one 11 .nil))))) (.one 10 (.one 4 (.one 6 (.one 7 (.one 11 .nil))))))))))))))),by kernel_rfl,?_,?_,?_⟩⟩;rotate_left;(focus ((conv=>whnf);(repeat' (first | ((refine st_lastR ?_) <;> (conv=>whnf)) | ((refine st_lastD ?_) <;> (conv=>whnf)) | ((refine And.intro ?_ ?_) <;> (conv=>whnf)) | (exact St.le_refl _) | (refine⟨rfl,?_,?_,?_⟩ <;> (repeat' (first | exact trivial | (refine⟨rfl,?_⟩)));done) | fail)))));conv=>whnf
 refine⟨some [0,1,2,4,1003,5,6,7],by kernel_rfl,?_⟩;conv=>whnf
 refine⟨s0.length,rfl,by simp,?_⟩
 conv=>whnf
 refine⟨s0.length,rfl,by simp,?_⟩
 conv=>whnf
 refine⟨33,_,_,[(11,(29,s0.length,(s0++[q]).map encR)),(12,(3,s0.length,(s0++[q]).map encD))],⟨52,[(0,.v (.raw (.func (.yield k.l0) #[] #[]))),(3,.ptr 3 0),(4,.ptr 4 0),(6,.ptr 6 0),(7,.ptr 7 0)],[(3,[.own 11 29 (s0.map encR)]),(4,[.own 12 3 (s0.map encD)]),(6,[.v (.raw q.u.a),.v (.raw q.u.b),.v (.sl ((ks.map El.u).map e3))]),(7,[.v (.int .i64 (q.d:Nat))])],[(11,some 29),(12,some 3)]⟩,rfl,rfl,rfl,hyi,.inl ⟨.inr ⟨rfl,known_args hqu⟩,⟨rfl,?_,?_,?_,rfl⟩⟩,?_,?_⟩
 ·exact⟨.inl ⟨rfl,.inl rfl⟩,.inl ⟨rfl,rfl⟩,.inl ⟨rfl,rfl⟩,.inl ⟨rfl,rfl⟩,.inl ⟨rfl,rfl⟩,trivial⟩
 ·refine⟨⟨_,rfl,⟨rfl,_,rfl,by simp⟩,trivial⟩,⟨_,rfl,⟨rfl,_,rfl,by simp⟩,trivial⟩,⟨_,rfl,⟨rfl,.inl rfl⟩,⟨rfl,.inl rfl⟩,⟨rfl,.inr fun v hv=>?_⟩,trivial⟩,⟨_,rfl,⟨rfl,.inl rfl⟩,trivial⟩,trivial⟩
  rw[show v=q.u.c from hv];exact hk3
 ·refine⟨⟨rfl,⟨27,rfl⟩,by simp,fun c hc=>?_⟩,⟨rfl,⟨30,rfl⟩,by simp,fun c hc=>?_⟩,trivial⟩
  ·obtain⟨z,_,rfl⟩:=List.mem_map.1 hc;rfl
  ·obtain⟨z,_,rfl⟩:=List.mem_map.1 hc;rfl
 rotate_left
 ·conv=>whnf
  exact .inr rfl
 conv=>whnf
 refine st_call (backward_fn ((ks.map El.u).map e3)) ⟨.inl rfl,trivial⟩ rfl rfl ?_
 conv=>whnf
 have hby:(bwY (ks.map El.u)).length=ks.length:=by unfold bwY;simp
 refine⟨_,_,fun j=>⟨52,[(0,.v (.raw (.func (.yield k.l0) #[] #[]))),(3,.ptr 3 0),(4,.ptr 4 0),(7,.ptr 7 0)],[(3,[.own 11 29 ((s0++ks.reverse.take j).map encR)]),(4,[.own 12 3 ((s0++ks.reverse.take j).map encD)]),(7,[.v (.int .i64 (q.d:Nat))])],[(11,some 29),(12,some 3)]⟩,fun j=>j≤ks.length,backward_it (ks.map El.u) (by simp;omega),⟨rfl,trivial⟩,rfl,⟨Nat.zero_le _,[(11,some 11),(12,some 12)],?_⟩,fun j=>rfl,(show ∀p∈[41,42],p < 52 by decide),fun j v hv hj=>?_,fun hj=>?_⟩
 ·dsimp only
  rw[List.take_zero,List.append_nil]
  (focus ((repeat' first|exact trivial|exact rfl|exact .inl rfl|exact .inr ⟨rfl,rfl⟩|refine And.intro ?_ ?_);done))
 ·have hjl:j < ks.length:=by
   have:=(List.getElem?_eq_some_iff.1 hv).1
   omega
  have hrl:j < ks.reverse.length:=by rw[List.length_reverse];exact hjl
  have hy:=bwK_get ks j hjl
  rw[hv] at hy
  injection hy with hy
  subst hy
  have hmem:ks.reverse[j]'hrl∈ks:=List.mem_reverse.1 (List.getElem_mem hrl)
  obtain⟨hd1,hd2⟩:=hk2 _ hmem
  have htk:s0++ks.reverse.take j++[ks.reverse[j]'hrl]=s0++ks.reverse.take (j+1):=by
   rw[List.append_assoc,List.take_succ_eq_append_getElem hrl]
  generalize ks.reverse[j]'hrl=r at*
  refine⟨rfl,?_⟩
  conv=>whnf
  have hln:(s0++ks.reverse.take j).length+1≤1000000000:=by
   rw[List.length_append,List.length_take];omega
  have hrd:(r.d:Int)=((q.d+1:Nat):Int):=by rw[hd1]
  (refine⟨some [9999],by kernel_rfl,⟨(.one 0 (.one 1 (.one 1004 (.one 1005 (.one 6 (.or (.one 2 (.or (.one 3 (.one 7 (.one 8 (.one 9 (.one 10 .nil))))) (.one 7 (.one 3 (.one 8 (.one 9 (.one 10 .nil))))))) (.one 7 (.one 2 (.one 3 (.one 8 (.one 9 (.one 10 .nil)))))))))))),by kernel_rfl,?_,?_,?_⟩⟩;rotate_left;(focus ((conv=>whnf);(repeat' (first | ((refine st_appR r hln ?_) <;> (conv=>whnf)) | ((refine⟨rfl,st_succ (by omega) ?_⟩) <;> (conv=>whnf)) | (((show(List.map encD (s0++List.take j ks.reverse)).length+[[V.int IntKind.i64 ((q.d+1:Nat):Int)]].length≤1000000000∧_;rw[←hrd];refine st_appD r hln ?_)) <;> (conv=>whnf)) | ((refine And.intro ?_ ?_) <;> (conv=>whnf)) | (exact St.le_refl _) | (refine⟨rfl,?_,?_,?_⟩ <;> (repeat' (first | exact trivial | (refine⟨rfl,?_⟩)));done) | fail)))));conv=>whnf
  refine⟨by dsimp only;omega,[(11,some 46),(12,some 51)],?_⟩
  dsimp only
  rw[←htk]
  (focus ((repeat' first|exact trivial|exact rfl|exact .inl rfl|exact .inr ⟨rfl,rfl⟩|refine And.intro ?_ ?_);done))
 ·conv=>whnf
  rw[hby]
  have htake:ks.reverse.take ks.length=ks.reverse:=by rw[←List.length_reverse,List.take_length]
  refine⟨(i+1,s0++ks.reverse),[(11,some 11),(12,some 12)],⟨hil,hdrop,fun q' hq'=>?_⟩,rfl,by dsimp only;omega,?_⟩
  ·rcases List.mem_append.1 hq' with hq' | hq'
   ·exact hz3 q' (by simp[hq'])
   ·obtain⟨h1,h2⟩:=hk2 q' (List.mem_reverse.1 hq')
    refine⟨?_,h2⟩
    have h3:(preN q'.d q'.x).length≤(preNs (q.d+1) q.x.kids).length:=by
     rw[preNs_map,←hk1,h1]
     exact pre_le ks (q.d+1) q' (List.mem_reverse.1 hq')
    omega
  ·dsimp only
   rw[htake]
   (focus ((repeat' first|exact trivial|exact rfl|exact .inl rfl|exact .inr ⟨rfl,rfl⟩|refine And.intro ?_ ?_);done))
theorem trees_fn{X:En}(f:Nd):Fn Tryz.prog X 150 [.v (.agg (cM f))] (.fn 176 [.ro (cM f)]):=by
 refine fnP_prog tabOk mixed Tryz.f150 Tryz.func150 (by kernel_rfl) (by kernel_rfl) (by kernel_rfl) ?_
 conv=>whnf
 exact⟨rfl,⟨_,rfl,rfl⟩,trivial⟩
theorem pre_get(f:Nd){j:Nat}{v:List V}(h:(preY f)[j]? =some v):∃hj:j < (preN 1 f).length,v=[.int .i64 (((preN 1 f)[j]).1:Nat),.agg (cM ((preN 1 f)[j]).2)]:=by
 unfold preY at h
 rw[List.getElem?_map] at h
 obtain⟨q,hq,rfl⟩:=Option.map_eq_some_iff.1 h
 obtain⟨hj,rfl⟩:=List.getElem?_eq_some_iff.1 hq
 exact⟨hj,rfl⟩
end Go.Proofs.YtknelogmocedeaaGreatDoor.Tl
namespace Go.Proofs.YtknelogmocedeaaGreatDoor.Tl
open Go.RowKit Go.Shelf Go.Lib
open Fl (bl bt' bl_bt bl_of size_bl)
open Fi (encS)
set_option linter.unusedVariables false
variable (p : Nat → Addr)
theorem size_bt(l:List UInt8):(bt' l).size=l.length:=by rw[←size_bl,bl_of]
theorem cat_bt(a b:List UInt8):bt' a++bt' b=bt' (a++b):=by
 apply ByteArray.ext
 rw[ByteArray.data_append]
 simp[bt']
set_option maxHeartbeats 4000000 in
theorem joined_fn(t:Nat)(xs:List ByteArray)(hn:xs.length≤1000000000)(hl:(catL xs).length≤16777215):Fn Tryz.prog (envX p) 115 [.v (.int .i64 (t:Nat)),.v (.sl (xs.map encS))] (.v (.str (bt' (UInt8.ofNat t::(szL (catL xs).length++catL xs))))):=by
 have hj:=join_fn p xs hn (by omega)
 have he:=encode_fn p (catL xs).length hl
 have hsz:=size_bt (catL xs)
 have hs4:=(szL_len (catL xs).length).2
 have hs5:=size_bt (szL (catL xs).length)
 have hs6:=size_bt (UInt8.ofNat t::szL (catL xs).length)
 rw[List.length_cons] at hs6
 refine fn_prog tabOk mixed Tryz.f115 Tryz.func115 (by kernel_rfl) (by kernel_rfl) ?_
 conv=>whnf
 (refine st_call hj ?_ rfl rfl ?_;(focus ((repeat' first|exact trivial|exact rfl|exact .inl rfl|exact .inr ⟨rfl,rfl⟩|refine And.intro ?_ ?_);done));conv=>whnf)
 rw[hsz]
 (refine st_call he ?_ rfl rfl ?_;(focus ((repeat' first|exact trivial|exact rfl|exact .inl rfl|exact .inr ⟨rfl,rfl⟩|refine And.intro ?_ ?_);done));conv=>whnf)
 refine⟨_,rfl,?_⟩
 conv=>whnf
 refine⟨[UInt8.ofNat t],?_,?_⟩
 ·show some [UInt8.ofNat (IntKind.u8.wrap ((t:Nat):Int)).toNat]=_
  rw[ofNat_wrap]
 conv=>whnf
 refine⟨?_,bt' (UInt8.ofNat t::szL (catL xs).length),cat_bt [UInt8.ofNat t] (szL (catL xs).length),?_⟩
 ·rw[show({data:=[UInt8.ofNat t].toArray}:ByteArray).size=1 from rfl]
  omega
 conv=>whnf
 refine⟨by omega,_,cat_bt _ _,?_⟩
 conv=>whnf
 exact⟨.inl rfl,rfl⟩
theorem catL_kids(d:ByteArray):∀l:List Nd,catL (l.map (fun z=>bt' (layN z))++[d])=layNs l++bl d
 | []=>by
  show bl d++[]=_
  rw[List.append_nil];rfl
 | x::r=>by
  have h:=catL_kids d r
  unfold catL at h ⊢
  rw[List.map_cons,List.cons_append,List.map_cons,List.flatten_cons,h,bl_of,layNs,List.append_assoc]
set_option maxHeartbeats 4000000 in
theorem laid_one(x:Nd)(t:Nat)(ht:x.tag=(t:Nat))(hrec:∀y∈x.kids,Fn Tryz.prog (envX p) 81 [.v (.agg (cM y))] (.v (.str (bt' (layN y)))))(hn:x.kids.length≤100000000)(hl:(layNs x.kids++bl x.data).length≤16777215):Fn Tryz.prog (envX p) 81 [.v (.agg (cM x))] (.v (.str (bt' (layN x)))):=by
 have hlay:layN x=UInt8.ofNat t::(szL (layNs x.kids++bl x.data).length++(layNs x.kids++bl x.data)):=by
  cases x with
  | mk t0 d k=>
   rw[layN]
   rw[show t0.toNat=t from by have:t0=(t:Nat):=ht;omega]
   rfl
 have hj:=joined_fn p t (x.kids.map (fun z=>bt' (layN z))++[x.data]) (by simp;omega) (by rw[catL_kids];exact hl)
 rw[catL_kids,←hlay] at hj
 refine fn_prog tabOk mixed Tryz.f81 Tryz.func81 (by kernel_rfl) (by kernel_rfl) ?_
 conv=>whnf
 refine⟨Nat,fun i=>⟨27,[(1,.ptr 1 0),(3,.own 17 9 ((x.kids.take i).map fun z=>encS (bt' (layN z)))),(7,.v (.sl (x.kids.map cN))),(8,.v (.int .i64 ((x.kids.map cN).length:Nat))),(9,.v (.int .i64 (i:Nat)))],[(1,(cM x).map .v)],[(17,some 9)]⟩,fun i=>i≤x.kids.length,fun i=>x.kids.length - i,⟨0,[(17,none)],Nat.zero_le _,?_⟩,fun i hi=>?_⟩
 ·(focus ((repeat' first|exact trivial|exact rfl|exact .inl rfl|exact .inr ⟨rfl,rfl⟩|refine And.intro ?_ ?_);done))
 conv=>whnf
 refine⟨rfl,cmp_split (fun h=>?_) (fun h=>?_)⟩
 ·rw[List.length_map] at h
  have hil:i < x.kids.length:=by omega
  conv=>whnf
  refine st_idxN hil ?_
  conv=>whnf
  (refine st_call (hrec x.kids[i] (List.getElem_mem hil)) ?_ rfl rfl ?_;(focus ((repeat' first|exact trivial|exact rfl|exact .inl rfl|exact .inr ⟨rfl,rfl⟩|refine And.intro ?_ ?_);done));conv=>whnf)
  refine st_app (by simp;omega) (by simp[V.cells]) (map_take_succ (enc:=fun z=>encS (bt' (layN z))) hil) ?_
  conv=>whnf
  refine⟨rfl,st_succ (by omega) ?_⟩
  conv=>whnf
  refine⟨i+1,[(17,some 17)],by omega,by dsimp only;omega,?_⟩
  (focus ((repeat' first|exact trivial|exact rfl|exact .inl rfl|exact .inr ⟨rfl,rfl⟩|refine And.intro ?_ ?_);done))
 ·rw[List.length_map] at h
  have htk:x.kids.take i=x.kids:=List.take_of_length_le (by omega)
  conv=>whnf
  refine⟨none,by kernel_rfl,?_⟩;conv=>whnf
  rw[htk,ht]
  refine st_app (zs:=(x.kids.map (fun z=>bt' (layN z))++[x.data]).map encS) (by simp;omega) (by simp[V.cells]) (by rw[List.map_append,List.map_map];rfl) ?_
  conv=>whnf
  (refine st_call hj ?_ rfl rfl ?_;(focus ((repeat' first|exact trivial|exact rfl|exact .inl rfl|exact .inr ⟨rfl,rfl⟩|refine And.intro ?_ ?_);done));conv=>whnf)
  exact⟨.inl rfl,rfl⟩
theorem okN_tag{d:Nat}{x:Nd}(h:(preN d x).all okN=true):∃t:Nat,x.tag=(t:Nat)∧t < 256:=by
 rw[preN_cons,List.all_cons,Bool.and_eq_true] at h
 obtain⟨h0,_⟩:=h
 unfold okN at h0
 rw[oneN_val] at h0
 simp only[Bool.and_eq_true,decide_eq_true_eq] at h0
 exact⟨x.tag.toNat,by omega,by omega⟩
mutual
theorem laid_fn:∀(x:Nd) (d:Nat),(preN d x).all okN=true→(layN x).length≤16000000→Fn Tryz.prog (envX p) 81 [.v (.agg (cM x))] (.v (.str (bt' (layN x))))
 | .mk t0 dt k,d,ha,hl=>by
  obtain⟨t,ht,_⟩:=okN_tag ha
  have hk:(preNs (d+1) k).all okN=true:=by
   rw[preN,List.all_cons,Bool.and_eq_true] at ha
   exact ha.2
  have hll:(layNs k++bl dt).length≤16000000:=by
   rw[layN,List.length_cons,List.length_append] at hl
   omega
  have hkl:(layNs k).length≤16000000:=by rw[List.length_append] at hll;omega
  have h2:=len_lays k
  have hks:=laid_fns k (d+1) hk hkl
  exact laid_one p (.mk t0 dt k) t ht hks (by show k.length≤_;omega) (by show(layNs k++bl dt).length≤_;omega)
theorem laid_fns:∀(l:List Nd) (d:Nat),(preNs d l).all okN=true→(layNs l).length≤16000000→∀y∈l,Fn Tryz.prog (envX p) 81 [.v (.agg (cM y))] (.v (.str (bt' (layN y))))
 | [],d,_,_=>fun y hy=>by cases hy
 | x::r,d,ha,hl=>fun y hy=>by
  rw[preNs,List.all_append,Bool.and_eq_true] at ha
  rw[layNs,List.length_append] at hl
  have hx:=laid_fn x d ha.1 (by omega)
  have hr:=laid_fns r d ha.2 (by omega)
  rcases List.mem_cons.1 hy with e | hy
  ·rw[e];exact hx
  ·exact hr y hy
end
set_option maxHeartbeats 4000000 in
theorem shaped_fn(f:Nd)(hN:(preN 1 f).length≤900000000):Fn Tryz.prog (envX p) 114 [.v (.agg (cM f))] (.v (.bool (shapedN f))):=by
 have hpl:(preY f).length=(preN 1 f).length:=by unfold preY;rw[List.length_map]
 refine fn_prog tabOk mixed Tryz.f114 Tryz.func114 (by kernel_rfl) (by kernel_rfl) ?_
 conv=>whnf
 (refine st_call (trees_fn (X:=envX p) f) ?_ rfl rfl ?_;(focus ((repeat' first|exact trivial|exact rfl|exact .inl rfl|exact .inr ⟨rfl,rfl⟩|refine And.intro ?_ ?_);done));conv=>whnf)
 refine⟨_,_,fun j=>⟨29,[(2,.ptr 2 0),(3,.ptr 3 0)],[(2,[.v (.bool false)]),(3,[.v (.int .i64 (j:Nat))])],[]⟩,fun j=>j≤(preN 1 f).length∧j≤200∧((preN 1 f).take j).all okN=true,trees_it f hN,⟨rfl,trivial⟩,rfl,⟨⟨Nat.zero_le _,Nat.zero_le _,rfl⟩,[],?_⟩,fun j=>rfl,(show ∀q∈[8,9],q < 29 by decide),fun j v hv ⟨hj,hj2,ha⟩=>?_,fun⟨hj,hj2,ha⟩=>?_⟩
 ·(focus ((repeat' first|exact trivial|exact rfl|exact .inl rfl|exact .inr ⟨rfl,rfl⟩|refine And.intro ?_ ?_);done))
 ·obtain⟨hjl,rfl⟩:=pre_get f hv
  have hts:=Fi.all_take_succ okN (preN 1 f) j hjl
  have hbad:okN (preN 1 f)[j]=false→shapedN f=false:=fun h=>by
   unfold shapedN
   rw[Fi.all_bad (f:=okN) hjl h,Bool.and_false]
  generalize (preN 1 f)[j]=q at*
  obtain⟨d,x⟩:=q
  dsimp only
  refine⟨rfl,?_⟩
  conv=>whnf
  refine⟨rfl,st_succ (by omega) ?_⟩
  conv=>whnf
  refine⟨rfl,cmp_split (fun h=>?_) (fun h=>?_)⟩
  ·conv=>whnf
   refine⟨[],⟨29,[(2,.ptr 2 0)],[(2,[.v (.bool false)])],[]⟩,by(focus ((repeat' first|exact trivial|exact rfl|exact .inl rfl|exact .inr ⟨rfl,rfl⟩|refine And.intro ?_ ?_);done)),rfl,?_⟩
   conv=>whnf
   exact⟨.inl (congrArg V.bool (by unfold shapedN;rw[decide_eq_false (by omega)];rfl)),rfl⟩
  conv=>whnf
  refine⟨rfl,cmp_split (fun h2=>?_) (fun h2=>?_)⟩
  ·conv=>whnf
   refine⟨[],⟨29,[(2,.ptr 2 0)],[(2,[.v (.bool false)])],[]⟩,by(focus ((repeat' first|exact trivial|exact rfl|exact .inl rfl|exact .inr ⟨rfl,rfl⟩|refine And.intro ?_ ?_);done)),rfl,?_⟩
   conv=>whnf
   exact⟨.inl (congrArg V.bool (hbad (by unfold okN;rw[decide_eq_false (by dsimp only;omega)];rfl)).symm),rfl⟩
  conv=>whnf
  refine st_callB (one_fn (X:=envX p) x) ⟨.inl rfl,trivial⟩ rfl (fun h3=>?_) (fun h3=>?_)
  ·conv=>whnf
   refine⟨rfl,cmp_split (fun h4=>?_) (fun h4=>?_)⟩
   ·conv=>whnf
    refine⟨[],⟨29,[(2,.ptr 2 0)],[(2,[.v (.bool false)])],[]⟩,by(focus ((repeat' first|exact trivial|exact rfl|exact .inl rfl|exact .inr ⟨rfl,rfl⟩|refine And.intro ?_ ?_);done)),rfl,?_⟩
    conv=>whnf
    exact⟨.inl (congrArg V.bool (hbad (by unfold okN;rw[h3,decide_eq_false (show ¬x.data.size≤4000 by omega),Bool.and_false,Bool.and_false])).symm),rfl⟩
   ·conv=>whnf
    refine⟨⟨hjl,by omega,by rw[hts,ha];unfold okN;rw[decide_eq_true (by dsimp only;omega),h3,decide_eq_true (show x.data.size≤4000 by omega)];rfl⟩,[],?_⟩
    (focus ((repeat' first|exact trivial|exact rfl|exact .inl rfl|exact .inr ⟨rfl,rfl⟩|refine And.intro ?_ ?_);done))
  ·conv=>whnf
   refine⟨[],⟨29,[(2,.ptr 2 0)],[(2,[.v (.bool false)])],[]⟩,by(focus ((repeat' first|exact trivial|exact rfl|exact .inl rfl|exact .inr ⟨rfl,rfl⟩|refine And.intro ?_ ?_);done)),rfl,?_⟩
   conv=>whnf
   exact⟨.inl (congrArg V.bool (hbad (by unfold okN;rw[h3,Bool.false_and,Bool.and_false])).symm),rfl⟩
 ·conv=>whnf
  rw[hpl,List.take_length] at ha
  rw[hpl] at hj2
  exact⟨.inl (congrArg V.bool (by unfold shapedN;rw[ha,decide_eq_true hj2];rfl)),rfl⟩
set_option maxHeartbeats 4000000 in
theorem right_fn(f:Nd)(hN:(preN 1 f).length≤900000000):Fn Tryz.prog (envX p) 79 [.v (.agg (cM f))] (.v (.bool (rightN f))):=by
 refine fn_prog tabOk mixed Tryz.f79 Tryz.func79 (by kernel_rfl) (by kernel_rfl) ?_
 conv=>whnf
 refine st_callB (shaped_fn p f hN) ⟨.inl rfl,trivial⟩ rfl (fun h=>?_) (fun h=>?_)
 ·have hs:=h
  unfold shapedN at hs
  simp only[Bool.and_eq_true,decide_eq_true_eq] at hs
  have hl:=lay_le 1 f hs.2
  have hlf:=laid_fn p f 1 hs.2 (by omega)
  have hz:=size_bt (layN f)
  conv=>whnf
  (refine st_call hlf ?_ rfl rfl ?_;(focus ((repeat' first|exact trivial|exact rfl|exact .inl rfl|exact .inr ⟨rfl,rfl⟩|refine And.intro ?_ ?_);done));conv=>whnf)
  refine⟨rfl,cmp_split (fun h2=>?_) (fun h2=>?_)⟩
  ·conv=>whnf
   exact⟨.inl (congrArg V.bool (by unfold rightN;rw[h,decide_eq_true (by omega)];rfl)),rfl⟩
  ·conv=>whnf
   exact⟨.inl (congrArg V.bool (by unfold rightN;rw[h,decide_eq_false (by omega)];rfl)),rfl⟩
 ·conv=>whnf
  exact⟨.inl (congrArg V.bool (by unfold rightN;rw[h];rfl)),rfl⟩
end Go.Proofs.YtknelogmocedeaaGreatDoor.Tl
namespace Go.Proofs.YtknelogmocedeaaGreatDoor.Tl
open Go.RowKit Go.Shelf Go.Lib
open Fl (bl bt' bl_bt bl_of size_bl)
open Fi (encS)
set_option linter.unusedVariables false
variable (p : Nat → Addr)
def encT(f:Nd):T:=if rightN f=true then .tup [.v (.str (bt' (layN f))),.v (.int .i64 0)] else .tup [.v (.str (bt' [])),.v (.int .i64 21)]
set_option maxHeartbeats 4000000 in
theorem tlvEncode_fn(f:Nd)(hN:(preN 1 f).length≤900000000):Fn Tryz.prog (envX p) 42 [.v (.agg (cM f))] (encT f):=by
 refine fn_prog tabOk mixed Tryz.f42 Tryz.func42 (by kernel_rfl) (by kernel_rfl) ?_
 conv=>whnf
 refine st_callB (right_fn p f hN) ⟨.inl rfl,trivial⟩ rfl (fun h=>?_) (fun h=>?_)
 ·have hs:=h
  unfold rightN shapedN at hs
  simp only[Bool.and_eq_true,decide_eq_true_eq] at hs
  have hlf:=laid_fn p f 1 hs.1.2 (by omega)
  conv=>whnf
  (refine st_call hlf ?_ rfl rfl ?_;(focus ((repeat' first|exact trivial|exact rfl|exact .inl rfl|exact .inr ⟨rfl,rfl⟩|refine And.intro ?_ ?_);done));conv=>whnf)
  unfold encT
  rw[if_pos h]
  exact⟨⟨.inl rfl,.inl rfl,trivial⟩,rfl⟩
 ·conv=>whnf
  refine⟨nodeV p,⟨by decide,rfl⟩,?_⟩
  conv=>whnf
  (refine st_call (told_node p 0) ?_ rfl rfl ?_;(focus ((repeat' first|exact trivial|exact rfl|exact .inl rfl|exact .inr ⟨rfl,rfl⟩|refine And.intro ?_ ?_);done));conv=>whnf)
  unfold encT
  rw[if_neg (by rw[h];decide)]
  exact⟨⟨.inl rfl,.inl rfl,trivial⟩,rfl⟩
end Go.Proofs.YtknelogmocedeaaGreatDoor.Tl
