/- Several texts, one behind the other. part, walked: attributes of trees. Conditions: at most 10^8 in one tree, texts of at most 10^8 bytes. part, walked: changes. Conditions: at most 10^8 in one tree, texts of at most 10^8 bytes. -/
import Derived.Test.YtknelogmocedeaaGreatDoorR27
namespace Go.Proofs.YtknelogmocedeaaGreatDoor.Pa
open Go.RowKit Go.Shelf Go.Lib Tl Pr
open Fl (bl bt' bl_bt bl_of size_bl)
open Fi (one_arg encS all_take_succ all_bad)
set_option linter.unusedVariables false
variable {X : En} (p : Nat → Addr)
abbrev limN(n:Nd):Prop:=kidLe 100000000 n
abbrev limT(t:Tk):Prop:=t.1.length≤100000000∧kidLes 100000000 t.1
theorem limN_mid{n:Nd}(h:limN n):midN n:=kidLe_mid (Nat.le_refl _) h
theorem limT_mid{t:Tk}(h:limT t):midT t:=⟨h.1,kidLes_mid (Nat.le_refl _) h.2⟩
theorem of_lim{n:Nd}(h:limN n)(tag:Int):limT (ofN n tag):=(kidLe_at h).2
theorem next_lim{tag:Int}{l r:List Nd}{x:Nd}(h:nextL tag l=some (x,r))(hm:l.length≤100000000∧kidLes 100000000 l):limN x∧r.length≤100000000∧kidLes 100000000 r:=by
 obtain⟨rfl,_⟩:=next_some h
 have:=hm.1
 rw[List.length_cons] at this
 exact⟨hm.2.1,by omega,hm.2.2⟩
theorem take_lim{tag:Int}{t:Tk}(h:limT t):(takeD tag t).1.size≤100000000∧limT (takeD tag t).2:=by
 unfold takeD
 split
 ·rename_i x r hn
  have:=next_lim hn h
  exact⟨(kidLe_at this.1).1,this.2⟩
 ·exact⟨Nat.zero_le _,h⟩
theorem list_lim{tag:Int}{t:Tk}(h:limT t):(takeL tag t).1.length≤100000000∧limT (takeL tag t).2:=by
 unfold takeL
 split
 ·rename_i x r hn
  have:=next_lim hn h
  have h1:=(kidLe_at this.1).2.1
  have h2:=(all_drop 4 x.kids).1
  exact⟨by dsimp only;omega,this.2⟩
 ·exact⟨Nat.zero_le _,h⟩
theorem of_att(x:Nd):FnI Tryz.prog X 95 [.v (.agg (cM x)),.v (.int .i64 48)] [(4,[.v (.str (bt' [])),.v .nils]),(2,[.v (.int .i64 x.tag),.v (.str x.data),.v (.sl (x.kids.map cN))])] [] (.ptr 20 0) [(20,takC (ofN x 48)),(4,[.v (.str (bt' [])),.v .nils]),(2,[.v (.int .i64 x.tag),.v (.str x.data),.v (.sl (x.kids.map cN))])] [] [20]:=by
 have ho:ofN x 48=(x.kids,decide (x.tag≠48∨x.data.size≠0)):=rfl
 rw[ho]
 refine fnI_prog tabOk mixed Tryz.f95 [(20,18)] (upN 19) Tryz.func95 (by kernel_rfl) (by kernel_rfl) rfl rfl ?_
 conv=>whnf
 refine⟨rfl,cmp_split (fun h=>?_) (fun h=>?_)⟩
 ·rw[show decide (x.tag≠48∨x.data.size≠0)=true from decide_eq_true (.inl h)]
  conv=>whnf
  (focus ((repeat' first|exact trivial|exact rfl|exact .inl rfl|exact .inr ⟨rfl,rfl⟩|refine And.intro ?_ ?_);done))
 ·conv=>whnf
  refine cmp_split (fun h2=>?_) (fun h2=>?_)
  ·rw[show decide (x.tag≠48∨x.data.size≠0)=true from decide_eq_true (.inr (fun e=>h2 (Fi.size0.1 e)))]
   conv=>whnf
   (focus ((repeat' first|exact trivial|exact rfl|exact .inl rfl|exact .inr ⟨rfl,rfl⟩|refine And.intro ?_ ?_);done))
  ·rw[show decide (x.tag≠48∨x.data.size≠0)=false from decide_eq_false (fun e=>e.elim h (fun e=>e (Fi.size0.2 (Decidable.not_not.1 h2))))]
   conv=>whnf
   (focus ((repeat' first|exact trivial|exact rfl|exact .inl rfl|exact .inr ⟨rfl,rfl⟩|refine And.intro ?_ ?_);done))
def attR:Option Att→T
 | some a=>.tup [.v (.agg (cAtt a)),.v .nili]
 | none=>.tup [.v (.agg (cAtt att0)),.v (paErr attS)]
def endU(lk:Bool)(l:List Nd):Bool:=[!lk,decide (l=[])].all id
theorem endU_iff(lk:Bool)(l:List Nd):endU lk l=true↔lk=false∧l=[]:=by
 unfold endU
 cases lk <;> simp
theorem attN_lim{a:Att}{least:Int}(h:attB a least=true):limN (attN a):=by
 unfold attB allSz at h
 simp only[Bool.and_eq_true,decide_eq_true_eq,List.all_eq_true] at h
 obtain⟨_,h1,_,h2,h3⟩:=h
 have hn:a.name.size≤30:=by
  unfold Fl.nameB at h1
  rw[Bool.and_eq_true,decide_eq_true_eq,size_bl] at h1
  exact h1.1
 have hk:∀l:List ByteArray,(∀x∈l,x.size≤200)→kidLes 100000000 (l.map (leafN 4)):=by
  intro l
  induction l with
  | nil=>intro _;trivial
  | cons x r ih=>intro h;exact⟨⟨by have:=h x (by simp);omega,by decide,trivial⟩,ih fun y hy=>h y (by simp[hy])⟩
 exact⟨by decide,by simp,⟨by omega,by decide,trivial⟩,⟨by decide,by rw[List.length_map];omega,hk _ h3⟩,trivial⟩
set_option maxHeartbeats 4000000 in
theorem attr_fn(n:Nd)(hm:limN n)(least:Int):Fn Tryz.prog (envX p) 60 [.v (.agg (cM n)),.v (.int .i64 least)] (attR (readA n least)):=by
 have hk:=of_lim hm 48
 have hD:=data_fn (X:=envX p) 4 (ofN n 48) hk.1
 have hl1:=take_lim (tag:=4) hk
 have hrd:readA n least=(let x:=takeD 4 (ofN n 48);let y:=takeL 49 x.2;if y.2.2=false∧y.2.1=[]∧attB ⟨x.1,y.1⟩ least=true∧sameN (attN ⟨x.1,y.1⟩) n=true then some ⟨x.1,y.1⟩ else none):=rfl
 have hof:=of_att (X:=envX p) n
 generalize takeD 4 (ofN n 48)=x at hD hl1 hrd
 obtain⟨o,t1⟩:=x
 dsimp only at hD hl1 hrd
 have hL:=list_fn (X:=envX p) 49 (by decide) t1 hl1.2.1 (limT_mid hl1.2).2
 have hl2:=list_lim (tag:=49) hl1.2
 generalize takeL 49 t1=y at hL hl2 hrd
 obtain⟨vs,t2⟩:=y
 dsimp only at hL hl2 hrd
 have hE:=end_fn (X:=envX p) t2
 have hU:Fn Tryz.prog (envX p) 82 [.v (.str attS),.v (.sl ([!t2.2,decide (t2.1=[])].map fun b=>[V.bool b]))] (.v (errU attS (endU t2.2 t2.1))):=unless_fn (X:=envX p) attS _ (by simp)
 have hA:=Attr_fn p ⟨o,vs⟩ least ⟨hl1.1,hl2.1⟩
 unfold AttT at hA
 cases hu:endU t2.2 t2.1
 ·rw[hu] at hU
  rw[hrd,if_neg fun h=>by rw[(endU_iff _ _).2 ⟨h.1,h.2.1⟩] at hu;cases hu]
  refine fn_prog tabOk mixed Tryz.f60 Tryz.func60 (by kernel_rfl) (by kernel_rfl) ?_
  conv=>whnf
  refine st_callN [20] hof ?_ ?_ ?_
  ·(focus ((repeat' first|exact trivial|exact rfl|exact .inl rfl|exact .inr ⟨rfl,rfl⟩|refine And.intro ?_ ?_);done))
  ·rfl
  conv=>whnf
  (refine st_callM [20] (hD) rfl ?_ ?_ rfl ?_;(focus ((repeat' first|exact trivial|exact rfl|exact .inl rfl|exact .inr ⟨rfl,rfl⟩|refine And.intro ?_ ?_);done));(focus ((repeat' first|exact trivial|exact rfl|exact .inl rfl|exact .inr ⟨rfl,rfl⟩|refine And.intro ?_ ?_);done));conv=>whnf)
  (refine st_callM [20] (hL) rfl ?_ ?_ rfl ?_;(focus ((repeat' first|exact trivial|exact rfl|exact .inl rfl|exact .inr ⟨rfl,rfl⟩|refine And.intro ?_ ?_);done));(focus ((repeat' first|exact trivial|exact rfl|exact .inl rfl|exact .inr ⟨rfl,rfl⟩|refine And.intro ?_ ?_);done));conv=>whnf)
  (refine⟨some [9999],by kernel_rfl,⟨(.one 0 (.one 1 (.one 2 (.one 5 (.or (.one 3 (.one 4 (.one 6 (.one 7 (.one 8 (.one 9 .nil)))))) (.one 6 (.one 3 (.one 4 (.one 7 (.one 8 (.one 9 .nil))))))))))),by kernel_rfl,?_,?_,?_⟩⟩;rotate_left;(focus ((conv=>whnf);(repeat' (first | (((with_reducible apply st_call (hU));(focus ((repeat' first|exact trivial|exact rfl|exact .inl rfl|exact .inr ⟨rfl,rfl⟩|refine And.intro ?_ ?_);done));(focus (exact rfl));(focus (exact rfl))) <;> (conv=>whnf)) | (((refine st_callM [20] (hE) rfl ?_ ?_ rfl ?_;(focus ((repeat' first|exact trivial|exact rfl|exact .inl rfl|exact .inr ⟨rfl,rfl⟩|refine And.intro ?_ ?_);done));(focus ((repeat' first|exact trivial|exact rfl|exact .inl rfl|exact .inr ⟨rfl,rfl⟩|refine And.intro ?_ ?_);done)))) <;> (conv=>whnf)) | ((refine And.intro ?_ ?_) <;> (conv=>whnf)) | (exact St.le_refl _) | (refine⟨rfl,?_,?_,?_⟩ <;> (repeat' (first | exact trivial | (refine⟨rfl,?_⟩)));done) | fail)))));conv=>whnf
  (focus ((repeat' first|exact trivial|exact rfl|exact .inl rfl|exact .inr ⟨rfl,rfl⟩|refine And.intro ?_ ?_);done))
 ·rw[hu] at hU
  obtain⟨u1,u2⟩:=(endU_iff _ _).1 hu
  cases hB:attB ⟨o,vs⟩ least
  ·rw[hB,if_neg (by decide)] at hA
   rw[hrd,if_neg fun h=>by rw[hB] at h;cases h.2.2.1]
   refine fn_prog tabOk mixed Tryz.f60 Tryz.func60 (by kernel_rfl) (by kernel_rfl) ?_
   conv=>whnf
   refine st_callN [20] hof ?_ ?_ ?_
   ·(focus ((repeat' first|exact trivial|exact rfl|exact .inl rfl|exact .inr ⟨rfl,rfl⟩|refine And.intro ?_ ?_);done))
   ·rfl
   conv=>whnf
   (refine st_callM [20] (hD) rfl ?_ ?_ rfl ?_;(focus ((repeat' first|exact trivial|exact rfl|exact .inl rfl|exact .inr ⟨rfl,rfl⟩|refine And.intro ?_ ?_);done));(focus ((repeat' first|exact trivial|exact rfl|exact .inl rfl|exact .inr ⟨rfl,rfl⟩|refine And.intro ?_ ?_);done));conv=>whnf)
   (refine st_callM [20] (hL) rfl ?_ ?_ rfl ?_;(focus ((repeat' first|exact trivial|exact rfl|exact .inl rfl|exact .inr ⟨rfl,rfl⟩|refine And.intro ?_ ?_);done));(focus ((repeat' first|exact trivial|exact rfl|exact .inl rfl|exact .inr ⟨rfl,rfl⟩|refine And.intro ?_ ?_);done));conv=>whnf)
   (refine⟨some [9999],by kernel_rfl,⟨(.one 0 (.one 1 (.one 2 (.one 5 (.or (.one 3 (.one 4 (.one 6 (.one 7 (.one 8 (.one 9 .nil)))))) (.one 6 (.one 3 (.one 4 (.one 7 (.one 8 (.one 9 .nil))))))))))),by kernel_rfl,?_,?_,?_⟩⟩;rotate_left;(focus ((conv=>whnf);(repeat' (first | (((with_reducible apply st_call (hU));(focus ((repeat' first|exact trivial|exact rfl|exact .inl rfl|exact .inr ⟨rfl,rfl⟩|refine And.intro ?_ ?_);done));(focus (exact rfl));(focus (exact rfl))) <;> (conv=>whnf)) | (((refine st_callM [20] (hE) rfl ?_ ?_ rfl ?_;(focus ((repeat' first|exact trivial|exact rfl|exact .inl rfl|exact .inr ⟨rfl,rfl⟩|refine And.intro ?_ ?_);done));(focus ((repeat' first|exact trivial|exact rfl|exact .inl rfl|exact .inr ⟨rfl,rfl⟩|refine And.intro ?_ ?_);done)))) <;> (conv=>whnf)) | ((refine And.intro ?_ ?_) <;> (conv=>whnf)) | (exact St.le_refl _) | (refine⟨rfl,?_,?_,?_⟩ <;> (repeat' (first | exact trivial | (refine⟨rfl,?_⟩)));done) | fail)))));conv=>whnf
   (refine st_call hA ?_ rfl rfl ?_;(focus ((repeat' first|exact trivial|exact rfl|exact .inl rfl|exact .inr ⟨rfl,rfl⟩|refine And.intro ?_ ?_);done));conv=>whnf)
   refine⟨rfl,cmp_true (by decide) ?_⟩
   conv=>whnf
   (focus ((repeat' first|exact trivial|exact rfl|exact .inl rfl|exact .inr ⟨rfl,rfl⟩|refine And.intro ?_ ?_);done))
  ·rw[hB,if_pos rfl] at hA
   have hS:=Tl.same_fn (X:=envX p) (attN ⟨o,vs⟩) n (limN_mid (attN_lim hB)) (limN_mid hm)
   have hres:readA n least=if sameN (attN ⟨o,vs⟩) n=true then some ⟨o,vs⟩ else none:=by
    rw[hrd]
    split
    ·rename_i h;rw[if_pos h.2.2.2]
    ·rename_i h;rw[if_neg fun e=>h ⟨u1,u2,hB,e⟩]
   rw[hres]
   cases hs:sameN (attN ⟨o,vs⟩) n <;> rw[hs] at hS
   all_goals
    refine fn_prog tabOk mixed Tryz.f60 Tryz.func60 (by kernel_rfl) (by kernel_rfl) ?_
    conv=>whnf
    refine st_callN [20] hof ?_ ?_ ?_
    ·(focus ((repeat' first|exact trivial|exact rfl|exact .inl rfl|exact .inr ⟨rfl,rfl⟩|refine And.intro ?_ ?_);done))
    ·rfl
    conv=>whnf
    (refine st_callM [20] (hD) rfl ?_ ?_ rfl ?_;(focus ((repeat' first|exact trivial|exact rfl|exact .inl rfl|exact .inr ⟨rfl,rfl⟩|refine And.intro ?_ ?_);done));(focus ((repeat' first|exact trivial|exact rfl|exact .inl rfl|exact .inr ⟨rfl,rfl⟩|refine And.intro ?_ ?_);done));conv=>whnf)
    (refine st_callM [20] (hL) rfl ?_ ?_ rfl ?_;(focus ((repeat' first|exact trivial|exact rfl|exact .inl rfl|exact .inr ⟨rfl,rfl⟩|refine And.intro ?_ ?_);done));(focus ((repeat' first|exact trivial|exact rfl|exact .inl rfl|exact .inr ⟨rfl,rfl⟩|refine And.intro ?_ ?_);done));conv=>whnf)
    (refine⟨some [9999],by kernel_rfl,⟨(.one 0 (.one 1 (.one 2 (.one 5 (.or (.one 3 (.one 4 (.one 6 (.one 7 (.one 8 (.one 9 .nil)))))) (.one 6 (.one 3 (.one 4 (.one 7 (.one 8 (.one 9 .nil))))))))))),by kernel_rfl,?_,?_,?_⟩⟩;rotate_left;(focus ((conv=>whnf);(repeat' (first | (((with_reducible apply st_call (hU));(focus ((repeat' first|exact trivial|exact rfl|exact .inl rfl|exact .inr ⟨rfl,rfl⟩|refine And.intro ?_ ?_);done));(focus (exact rfl));(focus (exact rfl))) <;> (conv=>whnf)) | (((refine st_callM [20] (hE) rfl ?_ ?_ rfl ?_;(focus ((repeat' first|exact trivial|exact rfl|exact .inl rfl|exact .inr ⟨rfl,rfl⟩|refine And.intro ?_ ?_);done));(focus ((repeat' first|exact trivial|exact rfl|exact .inl rfl|exact .inr ⟨rfl,rfl⟩|refine And.intro ?_ ?_);done)))) <;> (conv=>whnf)) | ((refine And.intro ?_ ?_) <;> (conv=>whnf)) | (exact St.le_refl _) | (refine⟨rfl,?_,?_,?_⟩ <;> (repeat' (first | exact trivial | (refine⟨rfl,?_⟩)));done) | fail)))));conv=>whnf
    (refine st_call hA ?_ rfl rfl ?_;(focus ((repeat' first|exact trivial|exact rfl|exact .inl rfl|exact .inr ⟨rfl,rfl⟩|refine And.intro ?_ ?_);done));conv=>whnf)
    refine⟨rfl,cmp_false (by decide) ?_⟩
    conv=>whnf
    (refine st_call hS ?_ rfl rfl ?_;(focus ((repeat' first|exact trivial|exact rfl|exact .inl rfl|exact .inr ⟨rfl,rfl⟩|refine And.intro ?_ ?_);done));conv=>whnf)
    (focus ((repeat' first|exact trivial|exact rfl|exact .inl rfl|exact .inr ⟨rfl,rfl⟩|refine And.intro ?_ ?_);done))
def attG:Option Att→T
 | some a=>.tup [.v (.agg (cAtt a)),.v (.int .i64 0)]
 | none=>.tup [.v (.agg (cAtt att0)),.v (.int .i64 100)]
theorem ReadAttr_fn(n:Nd)(hm:limN n)(least:Int):Fn Tryz.prog (envX p) 25 [.v (.agg (cM n)),.v (.int .i64 least)] (attG (readA n least)):=by
 have hc:=attr_fn p n hm least
 cases h:readA n least <;> rw[h] at hc
 all_goals
  refine fn_prog tabOk mixed Tryz.f25 Tryz.func25 (by kernel_rfl) (by kernel_rfl) ?_
  conv=>whnf
  (refine st_call hc ?_ rfl rfl ?_;(focus ((repeat' first|exact trivial|exact rfl|exact .inl rfl|exact .inr ⟨rfl,rfl⟩|refine And.intro ?_ ?_);done));conv=>whnf)
  refine⟨none,by kernel_rfl,?_⟩;conv=>whnf
 ·(refine st_call (told_wrong_fn p attS) ?_ rfl rfl ?_;(focus ((repeat' first|exact trivial|exact rfl|exact .inl rfl|exact .inr ⟨rfl,rfl⟩|refine And.intro ?_ ?_);done));conv=>whnf)
  (focus ((repeat' first|exact trivial|exact rfl|exact .inl rfl|exact .inr ⟨rfl,rfl⟩|refine And.intro ?_ ?_);done))
 ·(refine st_call (told_nil_fn p) ?_ rfl rfl ?_;(focus ((repeat' first|exact trivial|exact rfl|exact .inl rfl|exact .inr ⟨rfl,rfl⟩|refine And.intro ?_ ?_);done));conv=>whnf)
  (focus ((repeat' first|exact trivial|exact rfl|exact .inl rfl|exact .inr ⟨rfl,rfl⟩|refine And.intro ?_ ?_);done))
end Go.Proofs.YtknelogmocedeaaGreatDoor.Pa
namespace Go.Proofs.YtknelogmocedeaaGreatDoor.Pa
open Go.RowKit Go.Shelf Go.Lib Tl Pr
open Fl (bl bt' bl_bt bl_of size_bl)
open Fi (one_arg encS all_take_succ all_bad)
set_option linter.unusedVariables false
variable {X : En} (p : Nat → Addr)
def cChg(c:Chg):List V:=[.int .i64 c.kind,.str c.att.name,.sl (c.att.vals.map encS)]
def chgS:ByteArray:=⟨#[99,104,97,110,103,101]⟩
theorem check_chg(c:Chg)(hm:midA c.att):∃s,Fn Tryz.prog (envX p) 61 [.v (.agg (cChg c))] (.v (errU s (chgB c))):=by
 obtain⟨k,a⟩:=c
 unfold chgB
 dsimp only at hm ⊢
 by_cases h0:k=0
 ·subst h0
  rw[if_pos rfl]
  have ha:=check_att p a 1 hm
  refine⟨attS,?_⟩
  cases hB:attB a 1 <;> rw[hB] at ha
  all_goals
   refine fn_prog tabOk mixed Tryz.f61 Tryz.func61 (by kernel_rfl) (by kernel_rfl) ?_
   conv=>whnf
   refine⟨rfl,cmp_true rfl ?_⟩
   conv=>whnf
   refine⟨rfl,1,rfl,?_⟩
   conv=>whnf
   (refine st_call ha ?_ rfl rfl ?_;(focus ((repeat' first|exact trivial|exact rfl|exact .inl rfl|exact .inr ⟨rfl,rfl⟩|refine And.intro ?_ ?_);done));conv=>whnf)
   (focus ((repeat' first|exact trivial|exact rfl|exact .inl rfl|exact .inr ⟨rfl,rfl⟩|refine And.intro ?_ ?_);done))
 ·rw [if_neg h0]
  by_cases h12:k=1∨k=2
  ·rw[if_pos h12]
   have ha:=check_att p a 0 hm
   refine⟨attS,?_⟩
   cases hB:attB a 0 <;> rw[hB] at ha
   all_goals
    rcases h12 with rfl | rfl
    ·refine fn_prog tabOk mixed Tryz.f61 Tryz.func61 (by kernel_rfl) (by kernel_rfl) ?_
     conv=>whnf
     refine⟨rfl,cmp_false (show ¬(1:Int)=0 by decide) ?_⟩
     conv=>whnf
     refine⟨rfl,cmp_true rfl ?_⟩
     conv=>whnf
     (refine st_call ha ?_ rfl rfl ?_;(focus ((repeat' first|exact trivial|exact rfl|exact .inl rfl|exact .inr ⟨rfl,rfl⟩|refine And.intro ?_ ?_);done));conv=>whnf)
     (focus ((repeat' first|exact trivial|exact rfl|exact .inl rfl|exact .inr ⟨rfl,rfl⟩|refine And.intro ?_ ?_);done))
    ·refine fn_prog tabOk mixed Tryz.f61 Tryz.func61 (by kernel_rfl) (by kernel_rfl) ?_
     conv=>whnf
     refine⟨rfl,cmp_false (show ¬(2:Int)=0 by decide) ?_⟩
     conv=>whnf
     refine⟨rfl,cmp_false (show ¬(2:Int)=1 by decide) ?_⟩
     conv=>whnf
     refine⟨rfl,cmp_true rfl ?_⟩
     conv=>whnf
     (refine st_call ha ?_ rfl rfl ?_;(focus ((repeat' first|exact trivial|exact rfl|exact .inl rfl|exact .inr ⟨rfl,rfl⟩|refine And.intro ?_ ?_);done));conv=>whnf)
     (focus ((repeat' first|exact trivial|exact rfl|exact .inl rfl|exact .inr ⟨rfl,rfl⟩|refine And.intro ?_ ?_);done))
  ·rw[if_neg h12]
   refine⟨chgS,?_⟩
   refine fn_prog tabOk mixed Tryz.f61 Tryz.func61 (by kernel_rfl) (by kernel_rfl) ?_
   conv=>whnf
   refine⟨rfl,cmp_false h0 ?_⟩
   conv=>whnf
   refine⟨rfl,cmp_false (fun e=>h12 (.inl e)) ?_⟩
   conv=>whnf
   refine⟨rfl,cmp_false (fun e=>h12 (.inr e)) ?_⟩
   conv=>whnf
   (focus ((repeat' first|exact trivial|exact rfl|exact .inl rfl|exact .inr ⟨rfl,rfl⟩|refine And.intro ?_ ?_);done))
def ChgT(c:Chg):T:=if chgB c=true then .tup [.v (.agg (cM (chgN c))),.v (.int .i64 0)] else .tup [.v (.agg (cM nd0)),.v (.int .i64 100)]
theorem Change_fn(c:Chg)(hm:midA c.att):Fn Tryz.prog (envX p) 26 [.v (.agg (cChg c))] (ChgT c):=by
 obtain⟨s,hc⟩:=check_chg p c hm
 unfold ChgT
 cases hB:chgB c
 ·rw[hB] at hc
  rw[if_neg (by decide)]
  refine fn_prog tabOk mixed Tryz.f26 Tryz.func26 (by kernel_rfl) (by kernel_rfl) ?_
  conv=>whnf
  (refine st_call hc ?_ rfl rfl ?_;(focus ((repeat' first|exact trivial|exact rfl|exact .inl rfl|exact .inr ⟨rfl,rfl⟩|refine And.intro ?_ ?_);done));conv=>whnf)
  (refine st_call (told_wrong_fn p s) ?_ rfl rfl ?_;(focus ((repeat' first|exact trivial|exact rfl|exact .inl rfl|exact .inr ⟨rfl,rfl⟩|refine And.intro ?_ ?_);done));conv=>whnf)
  (focus ((repeat' first|exact trivial|exact rfl|exact .inl rfl|exact .inr ⟨rfl,rfl⟩|refine And.intro ?_ ?_);done))
 ·rw[hB] at hc
  rw[if_pos rfl]
  have hA:=Attr_fn p c.att 0 hm
  unfold AttT at hA
  rw[if_pos (chg_kind hB).2] at hA
  have hN:=number_fn p c.kind
  refine fn_prog tabOk mixed Tryz.f26 Tryz.func26 (by kernel_rfl) (by kernel_rfl) ?_
  conv=>whnf
  (refine st_call hc ?_ rfl rfl ?_;(focus ((repeat' first|exact trivial|exact rfl|exact .inl rfl|exact .inr ⟨rfl,rfl⟩|refine And.intro ?_ ?_);done));conv=>whnf)
  (refine st_call hA ?_ rfl rfl ?_;(focus ((repeat' first|exact trivial|exact rfl|exact .inl rfl|exact .inr ⟨rfl,rfl⟩|refine And.intro ?_ ?_);done));conv=>whnf)
  (refine⟨some [9999],by kernel_rfl,⟨(.one 0 (.or (.one 1 (.or (.one 2 (.one 3 (.one 4 (.one 5 (.one 6 (.one 7 .nil)))))) (.one 3 (.one 2 (.one 4 (.one 5 (.one 6 (.one 7 .nil)))))))) (.one 3 (.one 1 (.one 2 (.one 4 (.one 5 (.one 6 (.one 7 .nil))))))))),by kernel_rfl,?_,?_,?_⟩⟩;rotate_left;(focus ((conv=>whnf);(repeat' (first | (((with_reducible apply st_call (hN));(focus ((repeat' first|exact trivial|exact rfl|exact .inl rfl|exact .inr ⟨rfl,rfl⟩|refine And.intro ?_ ?_);done));(focus (exact rfl));(focus (exact rfl))) <;> (conv=>whnf)) | (((refine st_callN [] (FnI.of_fn (node_fnM 48 [numN c.kind,attN c.att]) rfl rfl) ?_ rfl ?_;(focus ((repeat' first|exact trivial|exact rfl|exact .inl rfl|exact .inr ⟨rfl,rfl⟩|refine And.intro ?_ ?_);done)))) <;> (conv=>whnf)) | ((refine And.intro ?_ ?_) <;> (conv=>whnf)) | (exact St.le_refl _) | (refine⟨rfl,?_,?_,?_⟩ <;> (repeat' (first | exact trivial | (refine⟨rfl,?_⟩)));done) | fail)))));conv=>whnf
  (focus ((repeat' first|exact trivial|exact rfl|exact .inl rfl|exact .inr ⟨rfl,rfl⟩|refine And.intro ?_ ?_);done))
def bChg(c:Chg):List T:=[.v (.int .i64 c.kind),.v (.str c.att.name),.v (.sl (c.att.vals.map encS))]
theorem chg_bad(s:ByteArray)(c:Chg):FnD Tryz.prog X 102 [[.v (paErr s)],bChg c] [.ptr 0 0,.ptr 1 0] [[.v (paErr s)],[.v (.int .i64 0),.v (.str (bt' [])),.v .nils]]:=by
 refine fnD_prog tabOk mixed Tryz.f102 Tryz.func102 (by kernel_rfl) (by kernel_rfl) (by kernel_rfl) (by kernel_rfl) rfl rfl rfl rfl ?_
 conv=>whnf
 (focus ((repeat' first|exact trivial|exact rfl|exact .inl rfl|exact .inr ⟨rfl,rfl⟩|refine And.intro ?_ ?_);done))
theorem chg_good(c:Chg):FnD Tryz.prog X 102 [[.v .nili],bChg c] [.ptr 0 0,.ptr 1 0] [[.v .nili],bChg c]:=by
 refine fnD_prog tabOk mixed Tryz.f102 Tryz.func102 (by kernel_rfl) (by kernel_rfl) (by kernel_rfl) (by kernel_rfl) rfl rfl rfl rfl ?_
 conv=>whnf
 (focus ((repeat' first|exact trivial|exact rfl|exact .inl rfl|exact .inr ⟨rfl,rfl⟩|refine And.intro ?_ ?_);done))
theorem of_chg(x:Nd):FnI Tryz.prog X 95 [.v (.agg (cM x)),.v (.int .i64 48)] [(3,[.v .nili]),(2,[.v (.int .i64 0),.v (.str (bt' [])),.v .nils]),(1,[.v (.int .i64 x.tag),.v (.str x.data),.v (.sl (x.kids.map cN))])] [] (.ptr 20 0) [(20,takC (ofN x 48)),(3,[.v .nili]),(2,[.v (.int .i64 0),.v (.str (bt' [])),.v .nils]),(1,[.v (.int .i64 x.tag),.v (.str x.data),.v (.sl (x.kids.map cN))])] [] [20]:=by
 have ho:ofN x 48=(x.kids,decide (x.tag≠48∨x.data.size≠0)):=rfl
 rw[ho]
 refine fnI_prog tabOk mixed Tryz.f95 [(20,18)] (upN 19) Tryz.func95 (by kernel_rfl) (by kernel_rfl) rfl rfl ?_
 conv=>whnf
 refine⟨rfl,cmp_split (fun h=>?_) (fun h=>?_)⟩
 ·rw[show decide (x.tag≠48∨x.data.size≠0)=true from decide_eq_true (.inl h)]
  conv=>whnf
  (focus ((repeat' first|exact trivial|exact rfl|exact .inl rfl|exact .inr ⟨rfl,rfl⟩|refine And.intro ?_ ?_);done))
 ·conv=>whnf
  refine cmp_split (fun h2=>?_) (fun h2=>?_)
  ·rw[show decide (x.tag≠48∨x.data.size≠0)=true from decide_eq_true (.inr (fun e=>h2 (Fi.size0.1 e)))]
   conv=>whnf
   (focus ((repeat' first|exact trivial|exact rfl|exact .inl rfl|exact .inr ⟨rfl,rfl⟩|refine And.intro ?_ ?_);done))
  ·rw[show decide (x.tag≠48∨x.data.size≠0)=false from decide_eq_false (fun e=>e.elim h (fun e=>e (Fi.size0.2 (Decidable.not_not.1 h2))))]
   conv=>whnf
   (focus ((repeat' first|exact trivial|exact rfl|exact .inl rfl|exact .inr ⟨rfl,rfl⟩|refine And.intro ?_ ?_);done))
def chgR(s:ByteArray):Option Chg→T
 | some c=>.tup [.v (.agg (cChg c)),.v .nili]
 | none=>.tup [.v (.agg (cChg chg0)),.v (paErr s)]
theorem numI_lim{t:Tk}(h:limT t):limT (takeI t).2:=by
 unfold takeI
 split
 ·exact(take_lim h).2
 ·exact(take_lim h).2
theorem att_mid{a:Att}{n:Nd}{least:Int}(hm:limN n)(h:readA n least=some a):midA a:=by
 unfold readA at h
 dsimp only at h
 split at h
 ·cases h
  have hk:=of_lim hm 48
  have h1:=take_lim (tag:=4) hk
  exact⟨h1.1,(list_lim h1.2).1⟩
 ·cases h
def oneU(lk:Bool)(l:List Nd):Bool:=[!lk,decide ((((l.map cN).length:Nat):Int)=1)].all id
theorem oneU_iff(lk:Bool)(l:List Nd):oneU lk l=true↔lk=false∧∃y,l=[y]:=by
 unfold oneU
 rw[List.length_map]
 rcases l with _ | ⟨a,_ | ⟨b,r⟩⟩
 ·cases lk <;> simp
 ·cases lk <;> simp
 ·have:¬(((a::b::r).length:Nat):Int)=1:=by simp only[List.length_cons];omega
  rw[show decide ((((a::b::r).length:Nat):Int)=1)=false from decide_eq_false this]
  cases lk <;> simp
set_option maxHeartbeats 4000000 in
theorem change_fn(n:Nd)(hm:limN n):∃s,Fn Tryz.prog (envX p) 63 [.v (.agg (cM n))] (chgR s (readH n)):=by
 have hk:=of_lim hm 48
 have hl:=take_lim (tag:=10) hk
 have hI:=number_taken p (ofN n 48) hk.1 (by have:=hl.1;omega)
 have hl1:=numI_lim hk
 have hrd:readH n=(match(takeI (ofN n 48)).2.1 with
  | [y]=>if(takeI (ofN n 48)).2.2=true then none else match readA y 0 with
   | some a=>if chgB ⟨(takeI (ofN n 48)).1,a⟩=true then some ⟨(takeI (ofN n 48)).1,a⟩ else none
   | none=>none
  | _=>none):=rfl
 have hof:=of_chg (X:=envX p) n
 generalize takeI (ofN n 48)=x at hI hl1 hrd
 obtain⟨k,l,lk⟩:=x
 dsimp only at hI hl1 hrd
 have hU:Fn Tryz.prog (envX p) 82 [.v (.str chgS),.v (.sl ([!lk,decide ((((l.map cN).length:Nat):Int)=1)].map fun b=>[V.bool b]))] (.v (errU chgS (oneU lk l))):=unless_fn (X:=envX p) chgS _ (by simp)
 cases hu:oneU lk l
 ·rw [hu] at hU
  refine⟨chgS,?_⟩
  have hn:readH n=none:=by
   rw[hrd]
   split
   ·split
    ·rfl
    ·rename_i y h
     rw[(oneU_iff _ _).2 ⟨Bool.eq_false_iff.2 h,_,rfl⟩] at hu
     cases hu
   ·rfl
  rw[hn]
  refine fn_of_m ?_
  refine fnM_defer (d:=6) (fc:=102) tabOk mixed Tryz.f63 Tryz.func63 (by kernel_rfl) rfl rfl rfl rfl rfl rfl rfl rfl rfl (by decide) (by decide) (by kernel_rfl) rfl rfl rfl rfl ?_
  conv=>whnf
  refine st_callN [20] hof ?_ ?_ ?_
  ·(focus ((repeat' first|exact trivial|exact rfl|exact .inl rfl|exact .inr ⟨rfl,rfl⟩|refine And.intro ?_ ?_);done))
  ·rfl
  conv=>whnf
  (refine st_callM [20] (hI) rfl ?_ ?_ rfl ?_;(focus ((repeat' first|exact trivial|exact rfl|exact .inl rfl|exact .inr ⟨rfl,rfl⟩|refine And.intro ?_ ?_);done));(focus ((repeat' first|exact trivial|exact rfl|exact .inl rfl|exact .inr ⟨rfl,rfl⟩|refine And.intro ?_ ?_);done));conv=>whnf)
  refine⟨none,by kernel_rfl,?_⟩;conv=>whnf
  refine⟨rfl,cmp_bool ?_⟩
  conv=>whnf
  (refine st_call hU ?_ rfl rfl ?_;(focus ((repeat' first|exact trivial|exact rfl|exact .inl rfl|exact .inr ⟨rfl,rfl⟩|refine And.intro ?_ ?_);done));conv=>whnf)
  refine⟨rfl,[3,2],_,_,_,chg_bad chgS ⟨k,att0⟩,rfl,?_,?_,?_⟩
  ·(focus ((repeat' first|exact trivial|exact rfl|exact .inl rfl|exact .inr ⟨rfl,rfl⟩|refine And.intro ?_ ?_);done))
  ·(focus ((repeat' first|exact trivial|exact rfl|exact .inl rfl|exact .inr ⟨rfl,rfl⟩|refine And.intro ?_ ?_);done))
  conv=>whnf
  (focus ((repeat' first|exact trivial|exact rfl|exact .inl rfl|exact .inr ⟨rfl,rfl⟩|refine And.intro ?_ ?_);done))
 ·rw [hu] at hU
  obtain⟨rfl,y,rfl⟩:=(oneU_iff _ _).1 hu
  have hy:limN y:=hl1.2.1
  have ha:=attr_fn p y hy 0
  dsimp only at hrd
  rw[if_neg (by decide)] at hrd
  cases hr:readA y 0 with
  | none=>
   rw[hr] at hrd ha
   dsimp only at hrd
   rw[hrd]
   refine⟨attS,fn_of_m ?_⟩
   refine fnM_defer (d:=6) (fc:=102) tabOk mixed Tryz.f63 Tryz.func63 (by kernel_rfl) rfl rfl rfl rfl rfl rfl rfl rfl rfl (by decide) (by decide) (by kernel_rfl) rfl rfl rfl rfl ?_
   conv=>whnf
   refine st_callN [20] hof ?_ ?_ ?_
   ·(focus ((repeat' first|exact trivial|exact rfl|exact .inl rfl|exact .inr ⟨rfl,rfl⟩|refine And.intro ?_ ?_);done))
   ·rfl
   conv=>whnf
   (refine st_callM [20] (hI) rfl ?_ ?_ rfl ?_;(focus ((repeat' first|exact trivial|exact rfl|exact .inl rfl|exact .inr ⟨rfl,rfl⟩|refine And.intro ?_ ?_);done));(focus ((repeat' first|exact trivial|exact rfl|exact .inl rfl|exact .inr ⟨rfl,rfl⟩|refine And.intro ?_ ?_);done));conv=>whnf)
   refine⟨none,by kernel_rfl,?_⟩;conv=>whnf
   refine⟨rfl,cmp_bool ?_⟩
   conv=>whnf
   (refine st_call hU ?_ rfl rfl ?_;(focus ((repeat' first|exact trivial|exact rfl|exact .inl rfl|exact .inr ⟨rfl,rfl⟩|refine And.intro ?_ ?_);done));conv=>whnf)
   refine st_idxN (xs:=[y]) (i:=0) (by simp) ?_
   conv=>whnf
   (refine st_call ha ?_ rfl rfl ?_;(focus ((repeat' first|exact trivial|exact rfl|exact .inl rfl|exact .inr ⟨rfl,rfl⟩|refine And.intro ?_ ?_);done));conv=>whnf)
   refine⟨some [0,1001,2,3],by kernel_rfl,?_⟩;conv=>whnf
   refine⟨rfl,[3,2],_,_,_,chg_bad attS ⟨k,att0⟩,rfl,?_,?_,?_⟩
   ·(focus ((repeat' first|exact trivial|exact rfl|exact .inl rfl|exact .inr ⟨rfl,rfl⟩|refine And.intro ?_ ?_);done))
   ·(focus ((repeat' first|exact trivial|exact rfl|exact .inl rfl|exact .inr ⟨rfl,rfl⟩|refine And.intro ?_ ?_);done))
   conv=>whnf
   (focus ((repeat' first|exact trivial|exact rfl|exact .inl rfl|exact .inr ⟨rfl,rfl⟩|refine And.intro ?_ ?_);done))
  | some a=>
   rw[hr] at hrd ha
   dsimp only at hrd
   obtain⟨s,hc⟩:=check_chg p ⟨k,a⟩ (att_mid hy hr)
   refine⟨s,fn_of_m ?_⟩
   have hgd:=chg_good (X:=envX p) ⟨k,a⟩
   have hbd:=chg_bad (X:=envX p) s ⟨k,a⟩
   cases hB:chgB ⟨k,a⟩ <;> rw[hB] at hc hrd
   all_goals
    rw[hrd]
    refine fnM_defer (d:=6) (fc:=102) tabOk mixed Tryz.f63 Tryz.func63 (by kernel_rfl) rfl rfl rfl rfl rfl rfl rfl rfl rfl (by decide) (by decide) (by kernel_rfl) rfl rfl rfl rfl ?_
    conv=>whnf
    refine st_callN [20] hof ?_ ?_ ?_
    ·(focus ((repeat' first|exact trivial|exact rfl|exact .inl rfl|exact .inr ⟨rfl,rfl⟩|refine And.intro ?_ ?_);done))
    ·rfl
    conv=>whnf
    (refine st_callM [20] (hI) rfl ?_ ?_ rfl ?_;(focus ((repeat' first|exact trivial|exact rfl|exact .inl rfl|exact .inr ⟨rfl,rfl⟩|refine And.intro ?_ ?_);done));(focus ((repeat' first|exact trivial|exact rfl|exact .inl rfl|exact .inr ⟨rfl,rfl⟩|refine And.intro ?_ ?_);done));conv=>whnf)
    refine⟨none,by kernel_rfl,?_⟩;conv=>whnf
    refine⟨rfl,cmp_bool ?_⟩
    conv=>whnf
    (refine st_call hU ?_ rfl rfl ?_;(focus ((repeat' first|exact trivial|exact rfl|exact .inl rfl|exact .inr ⟨rfl,rfl⟩|refine And.intro ?_ ?_);done));conv=>whnf)
    refine st_idxN (xs:=[y]) (i:=0) (by simp) ?_
    conv=>whnf
    (refine st_call ha ?_ rfl rfl ?_;(focus ((repeat' first|exact trivial|exact rfl|exact .inl rfl|exact .inr ⟨rfl,rfl⟩|refine And.intro ?_ ?_);done));conv=>whnf)
    refine⟨none,by kernel_rfl,?_⟩;conv=>whnf
    (refine st_call hc ?_ rfl rfl ?_;(focus ((repeat' first|exact trivial|exact rfl|exact .inl rfl|exact .inr ⟨rfl,rfl⟩|refine And.intro ?_ ?_);done));conv=>whnf)
    first
     | (refine⟨rfl,[3,2],_,_,_,hgd,rfl,?_,?_,?_⟩;(focus ((repeat' first|exact trivial|exact rfl|exact .inl rfl|exact .inr ⟨rfl,rfl⟩|refine And.intro ?_ ?_);done));(focus ((repeat' first|exact trivial|exact rfl|exact .inl rfl|exact .inr ⟨rfl,rfl⟩|refine And.intro ?_ ?_);done)))
     | (refine⟨rfl,[3,2],_,_,_,hbd,rfl,?_,?_,?_⟩;(focus ((repeat' first|exact trivial|exact rfl|exact .inl rfl|exact .inr ⟨rfl,rfl⟩|refine And.intro ?_ ?_);done));(focus ((repeat' first|exact trivial|exact rfl|exact .inl rfl|exact .inr ⟨rfl,rfl⟩|refine And.intro ?_ ?_);done)))
    conv=>whnf
    (focus ((repeat' first|exact trivial|exact rfl|exact .inl rfl|exact .inr ⟨rfl,rfl⟩|refine And.intro ?_ ?_);done))
def chgG:Option Chg→T
 | some c=>.tup [.v (.agg (cChg c)),.v (.int .i64 0)]
 | none=>.tup [.v (.agg (cChg chg0)),.v (.int .i64 100)]
theorem ReadChange_fn(n:Nd)(hm:limN n):Fn Tryz.prog (envX p) 27 [.v (.agg (cM n))] (chgG (readH n)):=by
 obtain⟨s,hc⟩:=change_fn p n hm
 cases h:readH n <;> rw[h] at hc
 all_goals
  refine fn_prog tabOk mixed Tryz.f27 Tryz.func27 (by kernel_rfl) (by kernel_rfl) ?_
  conv=>whnf
  (refine st_call hc ?_ rfl rfl ?_;(focus ((repeat' first|exact trivial|exact rfl|exact .inl rfl|exact .inr ⟨rfl,rfl⟩|refine And.intro ?_ ?_);done));conv=>whnf)
  refine⟨none,by kernel_rfl,?_⟩;conv=>whnf
 ·(refine st_call (told_wrong_fn p s) ?_ rfl rfl ?_;(focus ((repeat' first|exact trivial|exact rfl|exact .inl rfl|exact .inr ⟨rfl,rfl⟩|refine And.intro ?_ ?_);done));conv=>whnf)
  (focus ((repeat' first|exact trivial|exact rfl|exact .inl rfl|exact .inr ⟨rfl,rfl⟩|refine And.intro ?_ ?_);done))
 ·(refine st_call (told_nil_fn p) ?_ rfl rfl ?_;(focus ((repeat' first|exact trivial|exact rfl|exact .inl rfl|exact .inr ⟨rfl,rfl⟩|refine And.intro ?_ ?_);done));conv=>whnf)
  (focus ((repeat' first|exact trivial|exact rfl|exact .inl rfl|exact .inr ⟨rfl,rfl⟩|refine And.intro ?_ ?_);done))
end Go.Proofs.YtknelogmocedeaaGreatDoor.Pa
