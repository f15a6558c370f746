/- esc's reader: isBarred. Conditions: the shape of memory that each theorem names. -/
import Derived.Test.YtknelogmocedeaaGreatDoorR19
import Derived.Test.YtknelogmocedeaaGreatDoorR15
namespace Go
section
variable {P : Program} {ops : Array Oper} {Q : Exit → Act → World → Prop} {md : Region.Mode} {S : World → Prop}
theorem take_one{i d:Nat}{v:Value}{fuel:Nat}{listed:Array Bool}{a:Act}{w:World}(hd:(ops[i]?).map (fun o=>o.dst)=some (some d))(hw:((ops[i]?).map (fun o=>Region.wanted o (yielded ops a.tmps))).getD false=true)
  (hy:∀w,S w→((ops[i]?).map (fun o=>(execOp a.eval o).run P w)).getD (.ok (.value undef) w)=.ok (.value v) w)
  (hs:Region.noSelect ops=true) (hf:Region.free md ops listed i=true) (hr:(Region.ready md ops listed).contains i=true)
  (hQ:∀c a w,Q (.panic c) (a.put (some d) v) w→Q (.panic c) a w) (hS:S w)
  (h:wpAnyH P md ops Q S fuel (listed.setIfInBounds i true) (a.put (some d) v) w):wpAnyH P md ops Q S (fuel+1) listed a w:=by
 cases ho:ops[i]? with
 | none=>rw[ho] at hd;cases hd
 | some o=>
  rw[ho] at hd hw hy
  have hd':o.dst=some d:=by simpa using hd
  exact wpAnyH_take (v:=v) ho hs hf hr (by rw[hd'];exact hQ) (.inl ⟨hw,hy⟩) hS (by rw[hd'];exact h)
theorem skip_one{i d:Nat}{fuel:Nat}{listed:Array Bool}{a:Act}{w:World}(hd:(ops[i]?).map (fun o=>o.dst)=some (some d))(hw:((ops[i]?).map (fun o=>Region.wanted o (yielded ops a.tmps))).getD true=false)
  (hs:Region.noSelect ops=true) (hf:Region.free md ops listed i=true) (hr:(Region.ready md ops listed).contains i=true)
  (hQ:∀c a w,Q (.panic c) (a.put (some d) undef) w→Q (.panic c) a w) (hS:S w)
  (h:wpAnyH P md ops Q S fuel (listed.setIfInBounds i true) (a.put (some d) undef) w):wpAnyH P md ops Q S (fuel+1) listed a w:=by
 cases ho:ops[i]? with
 | none=>rw[ho] at hd;cases hd
 | some o=>
  rw[ho] at hd hw
  have hd':o.dst=some d:=by simpa using hd
  exact wpAnyH_take (v:=undef) ho hs hf hr (by rw[hd'];exact hQ) (.inr ⟨hw,rfl⟩) hS (by rw[hd'];exact h)
end
end Go
namespace Go.Proofs.YtknelogmocedeaaGreatDoor.Esc
open Go.RowKit
set_option linter.unusedVariables false
theorem one3(b:UInt8)(W:World)(n:Nat)(hn:n=W.heap.size):Calls Tryz.prog 207 #[.int .u8 b.toNat,.slice (some ⟨n,0,none⟩) 3 3] (W.alloc (.cells #[.int .u8 42,.int .u8 40,.int .u8 41] 5)) fun e w'=>e=.returned (.bool (signs3.contains b))∧(W.alloc (.cells #[.int .u8 42,.int .u8 40,.int .u8 41] 5))=w':=
 hn ▸ one_calls b _ signs3 _ (lit_bytes W (fun _=>True) signs3 trivial 3 3 rfl (by decide)) (by decide)
theorem one6(b:UInt8)(W:World)(n:Nat)(hn:n=W.heap.size):Calls Tryz.prog 207 #[.int .u8 b.toNat,.slice (some ⟨n,0,none⟩) 6 6] (W.alloc (.cells #[.int .u8 34,.int .u8 43,.int .u8 44,.int .u8 59,.int .u8 60,.int .u8 62] 5)) fun e w'=>e=.returned (.bool (signs6.contains b))∧(W.alloc (.cells #[.int .u8 34,.int .u8 43,.int .u8 44,.int .u8 59,.int .u8 60,.int .u8 62] 5))=w':=
 hn ▸ one_calls b _ signs6 _ (lit_bytes W (fun _=>True) signs6 trivial 6 6 rfl (by decide)) (by decide)
theorem one2d(b:UInt8)(W:World)(n:Nat)(hn:n=W.heap.size):Calls Tryz.prog 207 #[.int .u8 b.toNat,.slice (some ⟨n,0,none⟩) 2 2] (W.alloc (.cells #[.int .u8 32,.int .u8 35] 5)).drew fun e w'=>e=.returned (.bool (first2.contains b))∧(W.alloc (.cells #[.int .u8 32,.int .u8 35] 5)).drew=w':=
 hn ▸ one_calls b _ first2 _ ((VSlice.ok VByte.ok).below (lit_bytes W (fun _=>True) first2 trivial 2 2 rfl (by decide)) (below_drew _)) (by decide)
theorem one6d(b:UInt8)(W:World)(n:Nat)(hn:n=W.heap.size):Calls Tryz.prog 207 #[.int .u8 b.toNat,.slice (some ⟨n,0,none⟩) 6 6] (W.alloc (.cells #[.int .u8 34,.int .u8 43,.int .u8 44,.int .u8 59,.int .u8 60,.int .u8 62] 5)).drew fun e w'=>e=.returned (.bool (signs6.contains b))∧(W.alloc (.cells #[.int .u8 34,.int .u8 43,.int .u8 44,.int .u8 59,.int .u8 60,.int .u8 62] 5)).drew=w':=
 hn ▸ one_calls b _ signs6 _ ((VSlice.ok VByte.ok).below (lit_bytes W (fun _=>True) signs6 trivial 6 6 rfl (by decide)) (below_drew _)) (by decide)
theorem below_new2_drew(w:World)(o o':Obj):Below w.heap.size w ((w.alloc o).alloc o').drew:=below_then (below_new w o) (below_new_drew _ _)
set_option maxRecDepth 100000 in
set_option maxHeartbeats 8000000 in
theorem barred_calls{w:World}{B:Nat}{s:ByteArray}{at_:Nat}{nm:Bool}{l:List UInt8}(h:RD w B s at_ nm l)(ha:at_ < s.size)(hs:s.size≤100000000)(b:UInt8):
  Calls Tryz.prog 199 #[.pointer (some ⟨B,0,none⟩),.int .u8 b.toNat] w fun e w'=>e=.returned (.bool (barB nm s.size at_ b))∧Below w.heap.size w w':=by
 obtain⟨p',v,hb,_⟩:=h
 have c2:=cel hb 2 (v:=.bool nm) rfl
 cases nm with
 | false=>
  obtain⟨q,hq⟩:∃q,signs3.contains b=q:=⟨_,rfl⟩
  have HA:=Aside.mk (show barB false s.size at_ b=q from hq)
  have HQ:=Aside.mk hq
  clear hb hq
  go_enter Tryz.func199,Tryz.ntmps199
  go_wp2_with fail
  (with_reducible refine(one3 b _ _ ?_).mono ?_)
  ·simp
  rintro e w1 ⟨rfl,rfl⟩
  rw[HQ.out]
  go_wp2
  go_ret
  exact⟨by rw[HA.out];rfl,below_new _ _⟩
 | true=>
  have hk:=fun W (hW:Below w.heap.size w W)=>And.intro (cel (blk_below hb hW) 0 (v:=.string s) rfl) (cel (blk_below hb hW) 1 (v:=.int .i64 at_) rfl)
  have c0:=(hk w (Below.refl _ _)).1
  have c1:=(hk w (Below.refl _ _)).2
  have HK:=Aside.mk hk
  clear hk hb
  have key:∃q1 q2 q3 q4 q5:Bool,((at_:Int)==0)=q1∧first2.contains b=q2∧((at_:Int)==(s.size:Int) - 1)=q3∧((b.toNat:Int)==32)=q4∧signs6.contains b=q5∧barB true s.size at_ b=((q1&&q2)||(q3&&q4)||q5):=by
   refine⟨_,_,_,_,_,rfl,rfl,rfl,rfl,rfl,?_⟩
   have e1:((at_:Int)==0)=(at_==0):=by rw[Bool.eq_iff_iff];simp
   have e3:((at_:Int)==(s.size:Int) - 1)=(at_+1==s.size):=by rw[Bool.eq_iff_iff];simp;omega
   have e4:((b.toNat:Int)==32)=(b==32):=by rw[Bool.eq_iff_iff];simp[←UInt8.toNat_inj];omega
   rw[e1,e3,e4];rfl
  obtain⟨q1,q2,q3,q4,q5,h1,h2,h3,h4,h6,h5⟩:=key
  have h3d:decide ((at_:Int)=(s.size:Int) - 1)=q3:=by rw[←h3];rfl
  have h4d:decide ((b.toNat:Int)=32)=q4:=by rw[←h4];rfl
  have hwr:IntKind.i64.wrap ((s.size:Int) - 1)=(s.size:Int) - 1:=IntWalk.i64_in _ (by omega)
  have H5:=Aside.mk h5
  have H2:=Aside.mk h2
  have H6:=Aside.mk h6
  clear h5 h2 h6
  by_cases hqq:q1=true∧q2=true
  ·obtain⟨rfl,rfl⟩:=hqq
   clear h3 h4 h3d h4d
   go_enter Tryz.func199,Tryz.ntmps199
   go_wp2_with fail
   refine wp_region_held_drew (S:=fun w'=>w'.cell? ⟨B,0,none⟩=some (.string s)∧w'.cell? ⟨B,1,none⟩=some (.int .i64 at_)) (by kernel_rfl) (HK.out _ (below_drew _)) (fun hHeld=>?_)
   refine take_one (i:=0) (d:=14) (v:=?_) (by kernel_rfl) (by rfl) ?_ (by kernel_rfl) (by kernel_rfl) (by kernel_rfl) (fun _ _ _ h=>h) (by assumption) ?_
   rotate_left
   ·(intro w hSw;(try dsimp only at hSw);go_simp;first | done | with_reducible rfl | assumption | simp[*])
   simp only[Act.put,List.setIfInBounds_toArray,List.set_cons_zero,List.set_cons_succ]
   refine take_one (i:=1) (d:=15) (v:=?_) (by kernel_rfl) (by rfl) ?_ (by kernel_rfl) (by kernel_rfl) (by kernel_rfl) (fun _ _ _ h=>h) (by assumption) ?_
   rotate_left
   ·(intro w hSw;(try dsimp only at hSw);go_simp;first | done | with_reducible rfl | assumption | simp[*])
   simp only[Act.put,List.setIfInBounds_toArray,List.set_cons_zero,List.set_cons_succ]
   refine take_one (i:=2) (d:=16) (v:=?_) (by kernel_rfl) (by rfl) ?_ (by kernel_rfl) (by kernel_rfl) (by kernel_rfl) (fun _ _ _ h=>h) (by assumption) ?_
   rotate_left
   ·(intro w hSw;(try dsimp only at hSw);go_simp;first | done | with_reducible rfl | assumption | simp[*])
   simp only[Act.put,List.setIfInBounds_toArray,List.set_cons_zero,List.set_cons_succ]
   refine take_one (i:=3) (d:=17) (v:=?_) (by kernel_rfl) (by rfl) ?_ (by kernel_rfl) (by kernel_rfl) (by kernel_rfl) (fun _ _ _ h=>h) (by assumption) ?_
   rotate_left
   ·(intro w hSw;(try dsimp only at hSw);go_simp;first | done | with_reducible rfl | assumption | simp[*])
   simp only[Act.put,List.setIfInBounds_toArray,List.set_cons_zero,List.set_cons_succ]
   refine take_one (i:=4) (d:=18) (v:=?_) (by kernel_rfl) (by rfl) ?_ (by kernel_rfl) (by kernel_rfl) (by kernel_rfl) (fun _ _ _ h=>h) (by assumption) ?_
   rotate_left
   ·(intro w hSw;(try dsimp only at hSw);go_simp;first | done | with_reducible rfl | assumption | simp[*])
   simp only[Act.put,List.setIfInBounds_toArray,List.set_cons_zero,List.set_cons_succ]
   refine take_one (i:=5) (d:=19) (v:=?_) (by kernel_rfl) (by rfl) ?_ (by kernel_rfl) (by kernel_rfl) (by kernel_rfl) (fun _ _ _ h=>h) (by assumption) ?_
   rotate_left
   ·(intro w hSw;(try dsimp only at hSw);go_simp;first | done | with_reducible rfl | assumption | simp[*])
   simp only[Act.put,List.setIfInBounds_toArray,List.set_cons_zero,List.set_cons_succ]
   refine take_one (i:=6) (d:=20) (v:=?_) (by kernel_rfl) (by rfl) ?_ (by kernel_rfl) (by kernel_rfl) (by kernel_rfl) (fun _ _ _ h=>h) (by assumption) ?_
   rotate_left
   ·(intro w hSw;(try dsimp only at hSw);go_simp;first | done | with_reducible rfl | assumption | simp[*])
   simp only[Act.put,List.setIfInBounds_toArray,List.set_cons_zero,List.set_cons_succ]
   refine take_one (i:=7) (d:=21) (v:=?_) (by kernel_rfl) (by rfl) ?_ (by kernel_rfl) (by kernel_rfl) (by kernel_rfl) (fun _ _ _ h=>h) (by assumption) ?_
   rotate_left
   ·(intro w hSw;(try dsimp only at hSw);go_simp;first | done | with_reducible rfl | assumption | simp[*])
   simp only[Act.put,List.setIfInBounds_toArray,List.set_cons_zero,List.set_cons_succ]
   refine wpAnyH_ready (rs:=[8]) (by kernel_rfl) (by simp) ?_
   refine AllReadyH.cons rfl (fun K hK=>?_) AllReadyH.nil
   go_simp
   refine hK.out _ _ (HK.out _ (below_new_drew _ _)) (fun hHeld2=>?_)
   clear hK K
   try simp only[Act.put,List.setIfInBounds_toArray,List.set_cons_zero,List.set_cons_succ]
   refine wpAnyH_ready (rs:=[9]) (by kernel_rfl) (by simp) ?_
   refine AllReadyH.cons rfl (fun K hK=>?_) AllReadyH.nil
   go_simp
   refine(one2d b _ _ ?_).mono ?_
   ·first | rfl | simp
   rintro e w1 ⟨rfl,rfl⟩
   rw[H2.out]
   go_wp2_with fail
   refine hK.out _ _ (HK.out _ (below_new_drew _ _)) (fun hHeld3=>?_)
   clear hK K
   try simp only[Act.put,List.setIfInBounds_toArray,List.set_cons_zero,List.set_cons_succ]
   refine take_one (i:=10) (d:=24) (v:=?_) (by kernel_rfl) (by rfl) ?_ (by kernel_rfl) (by kernel_rfl) (by kernel_rfl) (fun _ _ _ h=>h) (by assumption) ?_
   rotate_left
   ·(intro w hSw;(try dsimp only at hSw);go_simp;first | done | with_reducible rfl | assumption | simp[*])
   simp only[Act.put,List.setIfInBounds_toArray,List.set_cons_zero,List.set_cons_succ]
   refine take_one (i:=11) (d:=25) (v:=?_) (by kernel_rfl) (by rfl) ?_ (by kernel_rfl) (by kernel_rfl) (by kernel_rfl) (fun _ _ _ h=>h) (by assumption) ?_
   rotate_left
   ·(intro w hSw;(try dsimp only at hSw);go_simp;first | done | with_reducible rfl | assumption | simp[*])
   simp only[Act.put,List.setIfInBounds_toArray,List.set_cons_zero,List.set_cons_succ]
   refine skip_one (i:=12) (d:=26) (by kernel_rfl) (by rfl) (by kernel_rfl) (by kernel_rfl) (by kernel_rfl) (fun _ _ _ h=>h) (by assumption) ?_
   simp only[Act.put,List.setIfInBounds_toArray,List.set_cons_zero,List.set_cons_succ]
   refine skip_one (i:=13) (d:=27) (by kernel_rfl) (by rfl) (by kernel_rfl) (by kernel_rfl) (by kernel_rfl) (fun _ _ _ h=>h) (by assumption) ?_
   simp only[Act.put,List.setIfInBounds_toArray,List.set_cons_zero,List.set_cons_succ]
   refine skip_one (i:=14) (d:=28) (by kernel_rfl) (by rfl) (by kernel_rfl) (by kernel_rfl) (by kernel_rfl) (fun _ _ _ h=>h) (by assumption) ?_
   simp only[Act.put,List.setIfInBounds_toArray,List.set_cons_zero,List.set_cons_succ]
   refine skip_one (i:=15) (d:=29) (by kernel_rfl) (by rfl) (by kernel_rfl) (by kernel_rfl) (by kernel_rfl) (fun _ _ _ h=>h) (by assumption) ?_
   simp only[Act.put,List.setIfInBounds_toArray,List.set_cons_zero,List.set_cons_succ]
   refine skip_one (i:=16) (d:=30) (by kernel_rfl) (by rfl) (by kernel_rfl) (by kernel_rfl) (by kernel_rfl) (fun _ _ _ h=>h) (by assumption) ?_
   simp only[Act.put,List.setIfInBounds_toArray,List.set_cons_zero,List.set_cons_succ]
   refine skip_one (i:=17) (d:=31) (by kernel_rfl) (by rfl) (by kernel_rfl) (by kernel_rfl) (by kernel_rfl) (fun _ _ _ h=>h) (by assumption) ?_
   simp only[Act.put,List.setIfInBounds_toArray,List.set_cons_zero,List.set_cons_succ]
   refine skip_one (i:=18) (d:=32) (by kernel_rfl) (by rfl) (by kernel_rfl) (by kernel_rfl) (by kernel_rfl) (fun _ _ _ h=>h) (by assumption) ?_
   simp only[Act.put,List.setIfInBounds_toArray,List.set_cons_zero,List.set_cons_succ]
   refine skip_one (i:=19) (d:=33) (by kernel_rfl) (by rfl) (by kernel_rfl) (by kernel_rfl) (by kernel_rfl) (fun _ _ _ h=>h) (by assumption) ?_
   simp only[Act.put,List.setIfInBounds_toArray,List.set_cons_zero,List.set_cons_succ]
   refine skip_one (i:=20) (d:=34) (by kernel_rfl) (by rfl) (by kernel_rfl) (by kernel_rfl) (by kernel_rfl) (fun _ _ _ h=>h) (by assumption) ?_
   simp only[Act.put,List.setIfInBounds_toArray,List.set_cons_zero,List.set_cons_succ]
   refine skip_one (i:=21) (d:=35) (by kernel_rfl) (by rfl) (by kernel_rfl) (by kernel_rfl) (by kernel_rfl) (fun _ _ _ h=>h) (by assumption) ?_
   simp only[Act.put,List.setIfInBounds_toArray,List.set_cons_zero,List.set_cons_succ]
   refine skip_one (i:=22) (d:=36) (by kernel_rfl) (by rfl) (by kernel_rfl) (by kernel_rfl) (by kernel_rfl) (fun _ _ _ h=>h) (by assumption) ?_
   simp only[Act.put,List.setIfInBounds_toArray,List.set_cons_zero,List.set_cons_succ]
   refine skip_one (i:=23) (d:=37) (by kernel_rfl) (by rfl) (by kernel_rfl) (by kernel_rfl) (by kernel_rfl) (fun _ _ _ h=>h) (by assumption) ?_
   simp only[Act.put,List.setIfInBounds_toArray,List.set_cons_zero,List.set_cons_succ]
   refine skip_one (i:=24) (d:=38) (by kernel_rfl) (by rfl) (by kernel_rfl) (by kernel_rfl) (by kernel_rfl) (fun _ _ _ h=>h) (by assumption) ?_
   simp only[Act.put,List.setIfInBounds_toArray,List.set_cons_zero,List.set_cons_succ]
   refine skip_one (i:=25) (d:=39) (by kernel_rfl) (by rfl) (by kernel_rfl) (by kernel_rfl) (by kernel_rfl) (fun _ _ _ h=>h) (by assumption) ?_
   simp only[Act.put,List.setIfInBounds_toArray,List.set_cons_zero,List.set_cons_succ]
   refine skip_one (i:=26) (d:=40) (by kernel_rfl) (by rfl) (by kernel_rfl) (by kernel_rfl) (by kernel_rfl) (fun _ _ _ h=>h) (by assumption) ?_
   simp only[Act.put,List.setIfInBounds_toArray,List.set_cons_zero,List.set_cons_succ]
   refine skip_one (i:=27) (d:=41) (by kernel_rfl) (by rfl) (by kernel_rfl) (by kernel_rfl) (by kernel_rfl) (fun _ _ _ h=>h) (by assumption) ?_
   simp only[Act.put,List.setIfInBounds_toArray,List.set_cons_zero,List.set_cons_succ]
   refine skip_one (i:=28) (d:=42) (by kernel_rfl) (by rfl) (by kernel_rfl) (by kernel_rfl) (by kernel_rfl) (fun _ _ _ h=>h) (by assumption) ?_
   simp only[Act.put,List.setIfInBounds_toArray,List.set_cons_zero,List.set_cons_succ]
   refine take_one (i:=29) (d:=43) (v:=?_) (by kernel_rfl) (by rfl) ?_ (by kernel_rfl) (by kernel_rfl) (by kernel_rfl) (fun _ _ _ h=>h) (by assumption) ?_
   rotate_left
   ·(intro w hSw;(try dsimp only at hSw);go_simp;first | done | with_reducible rfl | assumption | simp[*])
   simp only[Act.put,List.setIfInBounds_toArray,List.set_cons_zero,List.set_cons_succ]
   refine take_one (i:=30) (d:=5) (v:=?_) (by kernel_rfl) (by rfl) ?_ (by kernel_rfl) (by kernel_rfl) (by kernel_rfl) (fun _ _ _ h=>h) (by assumption) ?_
   rotate_left
   ·(intro w hSw;(try dsimp only at hSw);go_simp;first | done | with_reducible rfl | assumption | simp[*])
   simp only[Act.put,List.setIfInBounds_toArray,List.set_cons_zero,List.set_cons_succ]
   refine wpAnyH_done (by kernel_rfl) ?_ _
   go_wp2_with fail
   go_ret
   exact⟨by rw[H5.out];simp,below_new_drew _ _⟩
  ·have key2:(q1=false∧True)∨(q1=true∧q2=false):=by
    cases q1 <;> cases q2 <;> simp_all
   clear hqq
   rcases key2 with⟨rfl,-⟩ | ⟨rfl,rfl⟩
   ·cases q3 <;> cases q4
    all_goals
     go_enter Tryz.func199,Tryz.ntmps199
     go_wp2_with fail
     go_quiet (fail)
     go_wp2_with fail
    all_goals (try (
     (with_reducible refine(one6 b _ _ ?_).mono ?_)
     ·simp
     rintro e w1 ⟨rfl,rfl⟩
     rw[H6.out]
     go_wp2))
    all_goals go_ret
    all_goals
     refine⟨by rw[H5.out];simp,?_⟩
     first
      | exact below_drewN _ _
      | exact below_then (below_drewN _ _) (below_new _ _)
   ·cases q3
    ·go_enter Tryz.func199,Tryz.ntmps199
     go_wp2_with fail
     refine wp_region_held_drew (S:=fun w'=>w'.cell? ⟨B,0,none⟩=some (.string s)∧w'.cell? ⟨B,1,none⟩=some (.int .i64 at_)) (by kernel_rfl) (HK.out _ (below_drew _)) (fun hHeld=>?_)
     refine take_one (i:=0) (d:=14) (v:=?_) (by kernel_rfl) (by rfl) ?_ (by kernel_rfl) (by kernel_rfl) (by kernel_rfl) (fun _ _ _ h=>h) (by assumption) ?_
     rotate_left
     ·(intro w hSw;(try dsimp only at hSw);go_simp;first | done | with_reducible rfl | assumption | simp[*])
     simp only[Act.put,List.setIfInBounds_toArray,List.set_cons_zero,List.set_cons_succ]
     refine take_one (i:=1) (d:=15) (v:=?_) (by kernel_rfl) (by rfl) ?_ (by kernel_rfl) (by kernel_rfl) (by kernel_rfl) (fun _ _ _ h=>h) (by assumption) ?_
     rotate_left
     ·(intro w hSw;(try dsimp only at hSw);go_simp;first | done | with_reducible rfl | assumption | simp[*])
     simp only[Act.put,List.setIfInBounds_toArray,List.set_cons_zero,List.set_cons_succ]
     refine take_one (i:=2) (d:=16) (v:=?_) (by kernel_rfl) (by rfl) ?_ (by kernel_rfl) (by kernel_rfl) (by kernel_rfl) (fun _ _ _ h=>h) (by assumption) ?_
     rotate_left
     ·(intro w hSw;(try dsimp only at hSw);go_simp;first | done | with_reducible rfl | assumption | simp[*])
     simp only[Act.put,List.setIfInBounds_toArray,List.set_cons_zero,List.set_cons_succ]
     refine take_one (i:=3) (d:=17) (v:=?_) (by kernel_rfl) (by rfl) ?_ (by kernel_rfl) (by kernel_rfl) (by kernel_rfl) (fun _ _ _ h=>h) (by assumption) ?_
     rotate_left
     ·(intro w hSw;(try dsimp only at hSw);go_simp;first | done | with_reducible rfl | assumption | simp[*])
     simp only[Act.put,List.setIfInBounds_toArray,List.set_cons_zero,List.set_cons_succ]
     refine take_one (i:=4) (d:=18) (v:=?_) (by kernel_rfl) (by rfl) ?_ (by kernel_rfl) (by kernel_rfl) (by kernel_rfl) (fun _ _ _ h=>h) (by assumption) ?_
     rotate_left
     ·(intro w hSw;(try dsimp only at hSw);go_simp;first | done | with_reducible rfl | assumption | simp[*])
     simp only[Act.put,List.setIfInBounds_toArray,List.set_cons_zero,List.set_cons_succ]
     refine take_one (i:=5) (d:=19) (v:=?_) (by kernel_rfl) (by rfl) ?_ (by kernel_rfl) (by kernel_rfl) (by kernel_rfl) (fun _ _ _ h=>h) (by assumption) ?_
     rotate_left
     ·(intro w hSw;(try dsimp only at hSw);go_simp;first | done | with_reducible rfl | assumption | simp[*])
     simp only[Act.put,List.setIfInBounds_toArray,List.set_cons_zero,List.set_cons_succ]
     refine take_one (i:=6) (d:=20) (v:=?_) (by kernel_rfl) (by rfl) ?_ (by kernel_rfl) (by kernel_rfl) (by kernel_rfl) (fun _ _ _ h=>h) (by assumption) ?_
     rotate_left
     ·(intro w hSw;(try dsimp only at hSw);go_simp;first | done | with_reducible rfl | assumption | simp[*])
     simp only[Act.put,List.setIfInBounds_toArray,List.set_cons_zero,List.set_cons_succ]
     refine take_one (i:=7) (d:=21) (v:=?_) (by kernel_rfl) (by rfl) ?_ (by kernel_rfl) (by kernel_rfl) (by kernel_rfl) (fun _ _ _ h=>h) (by assumption) ?_
     rotate_left
     ·(intro w hSw;(try dsimp only at hSw);go_simp;first | done | with_reducible rfl | assumption | simp[*])
     simp only[Act.put,List.setIfInBounds_toArray,List.set_cons_zero,List.set_cons_succ]
     refine wpAnyH_ready (rs:=[8]) (by kernel_rfl) (by simp) ?_
     refine AllReadyH.cons rfl (fun K hK=>?_) AllReadyH.nil
     go_simp
     refine hK.out _ _ (HK.out _ (below_new_drew _ _)) (fun hHeld2=>?_)
     clear hK K
     try simp only[Act.put,List.setIfInBounds_toArray,List.set_cons_zero,List.set_cons_succ]
     refine wpAnyH_ready (rs:=[9]) (by kernel_rfl) (by simp) ?_
     refine AllReadyH.cons rfl (fun K hK=>?_) AllReadyH.nil
     go_simp
     refine(one2d b _ _ ?_).mono ?_
     ·first | rfl | simp
     rintro e w1 ⟨rfl,rfl⟩
     rw[H2.out]
     go_wp2_with fail
     refine hK.out _ _ (HK.out _ (below_new_drew _ _)) (fun hHeld3=>?_)
     clear hK K
     try simp only[Act.put,List.setIfInBounds_toArray,List.set_cons_zero,List.set_cons_succ]
     refine take_one (i:=10) (d:=24) (v:=?_) (by kernel_rfl) (by rfl) ?_ (by kernel_rfl) (by kernel_rfl) (by kernel_rfl) (fun _ _ _ h=>h) (by assumption) ?_
     rotate_left
     ·(intro w hSw;(try dsimp only at hSw);go_simp;first | done | with_reducible rfl | assumption | simp[*])
     simp only[Act.put,List.setIfInBounds_toArray,List.set_cons_zero,List.set_cons_succ]
     refine take_one (i:=11) (d:=25) (v:=?_) (by kernel_rfl) (by rfl) ?_ (by kernel_rfl) (by kernel_rfl) (by kernel_rfl) (fun _ _ _ h=>h) (by assumption) ?_
     rotate_left
     ·(intro w hSw;(try dsimp only at hSw);go_simp;first | done | with_reducible rfl | assumption | simp[*])
     simp only[Act.put,List.setIfInBounds_toArray,List.set_cons_zero,List.set_cons_succ]
     refine take_one (i:=12) (d:=26) (v:=?_) (by kernel_rfl) (by rfl) ?_ (by kernel_rfl) (by kernel_rfl) (by kernel_rfl) (fun _ _ _ h=>h) (by assumption) ?_
     rotate_left
     ·(intro w hSw;(try dsimp only at hSw);go_simp;first | done | with_reducible rfl | assumption | simp[*])
     simp only[Act.put,List.setIfInBounds_toArray,List.set_cons_zero,List.set_cons_succ]
     refine take_one (i:=13) (d:=27) (v:=?_) (by kernel_rfl) (by rfl) ?_ (by kernel_rfl) (by kernel_rfl) (by kernel_rfl) (fun _ _ _ h=>h) (by assumption) ?_
     rotate_left
     ·(intro w hSw;(try dsimp only at hSw);go_simp;first | done | with_reducible rfl | assumption | simp[*])
     simp only[Act.put,List.setIfInBounds_toArray,List.set_cons_zero,List.set_cons_succ]
     refine take_one (i:=14) (d:=28) (v:=?_) (by kernel_rfl) (by rfl) ?_ (by kernel_rfl) (by kernel_rfl) (by kernel_rfl) (fun _ _ _ h=>h) (by assumption) ?_
     rotate_left
     ·(intro w hSw;(try dsimp only at hSw);go_simp;first | done | with_reducible rfl | assumption | simp[*])
     simp only[Act.put,List.setIfInBounds_toArray,List.set_cons_zero,List.set_cons_succ]
     refine take_one (i:=15) (d:=29) (v:=?_) (by kernel_rfl) (by rfl) ?_ (by kernel_rfl) (by kernel_rfl) (by kernel_rfl) (fun _ _ _ h=>h) (by assumption) ?_
     rotate_left
     ·(intro w hSw;(try dsimp only at hSw);go_simp;first | done | with_reducible rfl | assumption | simp[*])
     simp only[Act.put,List.setIfInBounds_toArray,List.set_cons_zero,List.set_cons_succ]
     refine take_one (i:=16) (d:=30) (v:=?_) (by kernel_rfl) (by rfl) ?_ (by kernel_rfl) (by kernel_rfl) (by kernel_rfl) (fun _ _ _ h=>h) (by assumption) ?_
     rotate_left
     ·(intro w hSw;(try dsimp only at hSw);go_simp;first | done | with_reducible rfl | assumption | simp[*])
     simp only[Act.put,List.setIfInBounds_toArray,List.set_cons_zero,List.set_cons_succ]
     refine take_one (i:=17) (d:=31) (v:=?_) (by kernel_rfl) (by rfl) ?_ (by kernel_rfl) (by kernel_rfl) (by kernel_rfl) (fun _ _ _ h=>h) (by assumption) ?_
     rotate_left
     ·(intro w hSw;(try dsimp only at hSw);go_simp;first | done | with_reducible rfl | assumption | simp[*])
     simp only[Act.put,List.setIfInBounds_toArray,List.set_cons_zero,List.set_cons_succ]
     refine take_one (i:=18) (d:=32) (v:=?_) (by kernel_rfl) (by rfl) ?_ (by kernel_rfl) (by kernel_rfl) (by kernel_rfl) (fun _ _ _ h=>h) (by assumption) ?_
     rotate_left
     ·(intro w hSw;(try dsimp only at hSw);go_simp;first | done | with_reducible rfl | assumption | simp[*])
     simp only[Act.put,List.setIfInBounds_toArray,List.set_cons_zero,List.set_cons_succ]
     refine take_one (i:=19) (d:=33) (v:=?_) (by kernel_rfl) (by rfl) ?_ (by kernel_rfl) (by kernel_rfl) (by kernel_rfl) (fun _ _ _ h=>h) (by assumption) ?_
     rotate_left
     ·(intro w hSw;(try dsimp only at hSw);go_simp;first | done | with_reducible rfl | assumption | simp[*])
     simp only[Act.put,List.setIfInBounds_toArray,List.set_cons_zero,List.set_cons_succ]
     refine take_one (i:=20) (d:=34) (v:=?_) (by kernel_rfl) (by rfl) ?_ (by kernel_rfl) (by kernel_rfl) (by kernel_rfl) (fun _ _ _ h=>h) (by assumption) ?_
     rotate_left
     ·(intro w hSw;(try dsimp only at hSw);go_simp;first | done | with_reducible rfl | assumption | simp[*])
     simp only[Act.put,List.setIfInBounds_toArray,List.set_cons_zero,List.set_cons_succ]
     refine take_one (i:=21) (d:=35) (v:=?_) (by kernel_rfl) (by rfl) ?_ (by kernel_rfl) (by kernel_rfl) (by kernel_rfl) (fun _ _ _ h=>h) (by assumption) ?_
     rotate_left
     ·(intro w hSw;(try dsimp only at hSw);go_simp;first | done | with_reducible rfl | assumption | simp[*])
     simp only[Act.put,List.setIfInBounds_toArray,List.set_cons_zero,List.set_cons_succ]
     refine take_one (i:=22) (d:=36) (v:=?_) (by kernel_rfl) (by rfl) ?_ (by kernel_rfl) (by kernel_rfl) (by kernel_rfl) (fun _ _ _ h=>h) (by assumption) ?_
     rotate_left
     ·(intro w hSw;(try dsimp only at hSw);go_simp;first | done | with_reducible rfl | assumption | simp[*])
     simp only[Act.put,List.setIfInBounds_toArray,List.set_cons_zero,List.set_cons_succ]
     refine take_one (i:=23) (d:=37) (v:=?_) (by kernel_rfl) (by rfl) ?_ (by kernel_rfl) (by kernel_rfl) (by kernel_rfl) (fun _ _ _ h=>h) (by assumption) ?_
     rotate_left
     ·(intro w hSw;(try dsimp only at hSw);go_simp;first | done | with_reducible rfl | assumption | simp[*])
     simp only[Act.put,List.setIfInBounds_toArray,List.set_cons_zero,List.set_cons_succ]
     refine take_one (i:=24) (d:=38) (v:=.bool false) (by kernel_rfl) (by rfl) ?_ (by kernel_rfl) (by kernel_rfl) (by kernel_rfl) (fun _ _ _ h=>h) (by assumption) ?_
     ·(intro w hSw;(try dsimp only at hSw);go_simp;first | done | with_reducible rfl | assumption | simp[*])
     simp only[Act.put,List.setIfInBounds_toArray,List.set_cons_zero,List.set_cons_succ]
     refine take_one (i:=25) (d:=39) (v:=?_) (by kernel_rfl) (by rfl) ?_ (by kernel_rfl) (by kernel_rfl) (by kernel_rfl) (fun _ _ _ h=>h) (by assumption) ?_
     rotate_left
     ·(intro w hSw;(try dsimp only at hSw);go_simp;first | done | with_reducible rfl | assumption | simp[*])
     simp only[Act.put,List.setIfInBounds_toArray,List.set_cons_zero,List.set_cons_succ]
     refine skip_one (i:=26) (d:=40) (by kernel_rfl) (by rfl) (by kernel_rfl) (by kernel_rfl) (by kernel_rfl) (fun _ _ _ h=>h) (by assumption) ?_
     simp only[Act.put,List.setIfInBounds_toArray,List.set_cons_zero,List.set_cons_succ]
     refine skip_one (i:=27) (d:=41) (by kernel_rfl) (by rfl) (by kernel_rfl) (by kernel_rfl) (by kernel_rfl) (fun _ _ _ h=>h) (by assumption) ?_
     simp only[Act.put,List.setIfInBounds_toArray,List.set_cons_zero,List.set_cons_succ]
     refine take_one (i:=28) (d:=42) (v:=?_) (by kernel_rfl) (by rfl) ?_ (by kernel_rfl) (by kernel_rfl) (by kernel_rfl) (fun _ _ _ h=>h) (by assumption) ?_
     rotate_left
     ·(intro w hSw;(try dsimp only at hSw);go_simp;first | done | with_reducible rfl | assumption | simp[*])
     simp only[Act.put,List.setIfInBounds_toArray,List.set_cons_zero,List.set_cons_succ]
     refine take_one (i:=29) (d:=43) (v:=?_) (by kernel_rfl) (by rfl) ?_ (by kernel_rfl) (by kernel_rfl) (by kernel_rfl) (fun _ _ _ h=>h) (by assumption) ?_
     rotate_left
     ·(intro w hSw;(try dsimp only at hSw);go_simp;first | done | with_reducible rfl | assumption | simp[*])
     simp only[Act.put,List.setIfInBounds_toArray,List.set_cons_zero,List.set_cons_succ]
     refine take_one (i:=30) (d:=5) (v:=?_) (by kernel_rfl) (by rfl) ?_ (by kernel_rfl) (by kernel_rfl) (by kernel_rfl) (fun _ _ _ h=>h) (by assumption) ?_
     rotate_left
     ·(intro w hSw;(try dsimp only at hSw);go_simp;first | done | with_reducible rfl | assumption | simp[*])
     simp only[Act.put,List.setIfInBounds_toArray,List.set_cons_zero,List.set_cons_succ]
     refine wpAnyH_done (by kernel_rfl) ?_ _
     go_wp2_with fail
     (with_reducible refine(one6d b _ _ ?_).mono ?_)
     ·simp
     rintro e w1 ⟨rfl,rfl⟩
     rw[H6.out]
     go_wp2
     go_ret
     exact⟨by rw[H5.out];simp,below_new2_drew _ _ _⟩
    ·cases q4
     all_goals
      go_enter Tryz.func199,Tryz.ntmps199
      go_wp2_with fail
      first
       | (go_region_held3 (fun w'=>w'.cell? ⟨B,0,none⟩=some (.string s)∧w'.cell? ⟨B,1,none⟩=some (.int .i64 at_)) (first | exact HK.out _ (below_drew _) | exact HK.out _ (below_new_drew _ _) | exact HK.out _ (Below.refl _ _))
         (first
          | (go_at_call 207;refine(one2d b _ _ ?_).mono ?_;(· first | rfl | simp);rintro e w1 ⟨rfl,rfl⟩;rw[H2.out])))
       | fail
     all_goals go_wp2_with fail
     all_goals (try (
      (with_reducible refine(one6d b _ _ ?_).mono ?_)
      ·simp
      rintro e w1 ⟨rfl,rfl⟩
      rw[H6.out]
      go_wp2))
     all_goals go_ret
     all_goals
      refine⟨by rw[H5.out];simp,?_⟩
      first
       | exact below_new_drew _ _
       | exact below_new2_drew _ _ _
end Go.Proofs.YtknelogmocedeaaGreatDoor.Esc
