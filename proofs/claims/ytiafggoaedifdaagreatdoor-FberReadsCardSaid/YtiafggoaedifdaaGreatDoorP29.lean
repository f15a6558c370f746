/- Several texts, one behind the other. fber, walked: filters' trees. Conditions: right filters; such as are not too large. The walk without memory: the contract of a function that goes on with its caller's memory (variables that hold rows of one's own), out of the walk of its body. Whatever program. fber, walked: kinds of tags, two in a tree, pieces put. Conditions: at most 10^8 pieces. -/
import Derived.Test.YtiafggoaedifdaaGreatDoorP28
import Derived.Test.YtiafggoaedifdaaGreatDoorP15
/- fber, walked: filters' trees. Conditions: right filters; such as are not too large. -/
namespace Go.Proofs.YtiafggoaedifdaaGreatDoor.Fb
open Go.RowKit Go.Shelf Go.Lib Fl Tl
open Fi (one_arg cG cF cFs cG_eq midF midFs encS)
set_option linter.unusedVariables false
variable {X : En}
theorem tab_elm {P : Program} {tb : Tab} (h : TabOk P tb) : TabOk P { tb with elm := true } := ⟨h.mps, h.eqs, h.fld, h.siz, h.byt, h.elt, h.zer, h.str, h.boo, h.ints, h.conT, h.conF⟩
theorem node_two_fn (t : Int) (x y : Nd) : Fn Tryz.prog X 110 [.v (.int .i64 t), .v (.sl [cM x, cM y])] (.v (.agg (cM (.mk t (bt' []) [x, y])))) := by
 have h := node_fn (X := X) t [x, y]
 rw [List.map_cons, List.map_cons, List.map_nil, cM_eq, cM_eq] at h
 exact h
theorem in_fn (f : Flt) : Fn Tryz.prog X 112 [.v (.agg (cG f))] (.fn 132 [.ro (cG f)]) := by
 refine fnP_prog tabOk mixed Tryz.f112 Tryz.func112 (by kernel_rfl) (by kernel_rfl) (by kernel_rfl) ?_
 conv => whnf
 exact ⟨rfl, ⟨_, rfl, rfl⟩, trivial⟩
def inY (l : List Flt) : List (List V) := l.map fun x => [.agg (cM (treeF x))]
set_option maxHeartbeats 4000000 in
theorem in_it (f : Flt) (hN : f.l.length ≤ 100000000) (hrec : ∀ x ∈ f.l, Fn Tryz.prog X 81 [.v (.agg (cG x))] (.v (.agg (cM (treeF x))))) : It Tryz.prog X 132 [.ro (cG f)] (inY f.l) := by
 refine it_prog tabOk mixed Tryz.f132 Tryz.func132 (by kernel_rfl) (by kernel_rfl) (by kernel_rfl) fun k cvs hE hL0 hcv => ?_
 obtain ⟨v0, rfl, b, o, rfl, hcell⟩ := one_arg hcv
 obtain ⟨u, hu1, hu2⟩ := Fi.cells6 hcell
 have hkids : Rep k.w0 k.L0 (.sl (f.l.map cF)) u.f := by
  obtain ⟨a0, t0, e0, _, r0, a1, t1, rfl, _, r1, a2, t2, rfl, _, r2, a3, t3, rfl, _, r3, a4, t4, rfl, _, r4, a5, t5, rfl, _, r5, r6⟩ := hu1
  unfold Fi.l6 at e0
  injection e0 with _ e0
  injection e0 with _ e0
  injection e0 with _ e0
  injection e0 with _ e0
  injection e0 with _ e0
  injection e0 with e0 _
  rw [e0]; exact r5
 obtain ⟨ua, ub, uc, ud, ue, uf⟩ := u
 dsimp only at hkids hu2
 have hk2 := hkids
 obtain ⟨A, c, hv, _, _⟩ := hkids
 subst hv
 refine ⟨[.ro (Fi.e6 ⟨ua, ub, uc, ud, ue, .slice A (f.l.map cF).length c⟩)], ⟨_, _, rfl, ⟨b, o, rfl, hu2⟩, rfl⟩, rfl, by kernel_rfl, ?_⟩
 conv => whnf
 refine ⟨[(7, .sl (f.l.map cF))], ⟨⟨rfl, fun v hv => by rw [show v = _ from hv]; exact hk2⟩, trivial⟩, rfl, Nat, fun i => ⟨20, [(0, .v (.raw (.func (.yield k.l0) #[] #[]))), (7, .v (.sl (f.l.map cF))), (8, .v (.int .i64 ((f.l.map cF).length : Nat))), (9, .v (.int .i64 (i : Nat)))], [], []⟩, fun i => some i, fun i => i ≤ f.l.length, fun i => f.l.length - i, ⟨0, [], Nat.zero_le _, rfl, ?_⟩, fun i hi => ?_⟩
 ·(focus ((repeat' first|exact trivial|exact rfl|exact .inl rfl|exact .inr ⟨rfl,rfl⟩|refine And.intro ?_ ?_);done))
 conv => whnf
 refine ⟨rfl, cmp_split (fun h => ?_) (fun h => ?_)⟩
 ·try dsimp only at h
  rw [List.length_map] at h
  have hil : i < f.l.length := by omega
  have hyi : (inY f.l)[i]? = some [.agg (cM (treeF f.l[i]))] := by
   unfold inY
   rw [List.getElem?_map, List.getElem?_eq_getElem hil]
   rfl
  conv => whnf
  refine Fi.st_idxF hil ?_
  conv => whnf
  (refine st_call (hrec f.l[i] (List.getElem_mem hil)) ?_ rfl rfl ?_; (focus ((repeat' first|exact trivial|exact rfl|exact .inl rfl|exact .inr ⟨rfl,rfl⟩|refine And.intro ?_ ?_);done)); conv => whnf)
  refine ⟨13, _, _, [], ⟨20, [(0, .v (.raw (.func (.yield k.l0) #[] #[]))), (7, .v (.sl (f.l.map cF))), (8, .v (.int .i64 ((f.l.map cF).length : Nat))), (9, .v (.int .i64 (i : Nat)))], [], []⟩, rfl, rfl, rfl, hyi, .inl ⟨rfl, .inl rfl⟩, ⟨rfl, ?_, trivial, trivial, rfl⟩, ?_, ?_⟩
  ·exact ⟨.inl ⟨rfl, .inl rfl⟩, .inr rfl, .inl ⟨rfl, .inl rfl⟩, .inl ⟨rfl, .inl rfl⟩, trivial⟩
  ·conv => whnf
   refine ⟨rfl, st_succ (by omega) ?_⟩
   conv => whnf
   refine ⟨i + 1, [], by omega, rfl, by dsimp only; omega, ?_⟩
   (focus ((repeat' first|exact trivial|exact rfl|exact .inl rfl|exact .inr ⟨rfl,rfl⟩|refine And.intro ?_ ?_);done))
  ·conv => whnf
   exact .inr rfl
 ·try dsimp only at h
  rw [List.length_map] at h
  conv => whnf
  exact .inl (by rw [show (inY f.l).length = i from by unfold inY; rw [List.length_map]; omega])
theorem kind_ok {d : Nat} {f : Flt} (h : rightF d f = true) : 0 ≤ f.kind ∧ f.kind ≤ 8 ∧ f.any.length ≤ 4 ∧ f.l.length ≤ 8 := by
 obtain ⟨_, h1, _⟩ := right_one h
 cases f with
 | mk k n v a fi l =>
  obtain ⟨_, _, _, _, g5, g6, g7, g8⟩ := Fi.one_short h1
  exact ⟨g7, g8, g5, g6⟩
set_option maxHeartbeats 8000000 in
theorem make_one (f : Flt) (hk0 : 0 ≤ f.kind) (hk8 : f.kind ≤ 8) (hany : f.any.length ≤ 4) (hl : f.l.length ≤ 8) (hrec : ∀ x ∈ f.l, Fn Tryz.prog X 81 [.v (.agg (cG x))] (.v (.agg (cM (treeF x))))) : Fn Tryz.prog X 81 [.v (.agg (cG f))] (.v (.agg (cM (treeF f)))) := by
 have w1 : -9223372036854775808 ≤ 160 + f.kind := by omega
 have w2 : 160 + f.kind ≤ 9223372036854775807 := by omega
 have hval : treeF f = if f.kind = 7 then leafN 135 f.name
   else if f.kind = 4 then .mk (160 + f.kind) (bt' []) [leafN 4 f.name, .mk 48 (bt' []) (pcsN f.value f.any f.final)]
   else if f.kind = 3 ∨ f.kind = 5 ∨ f.kind = 6 ∨ f.kind = 8 then .mk (160 + f.kind) (bt' []) [leafN 4 f.name, leafN 4 f.value]
   else .mk (160 + f.kind) (bt' []) (treeFs f.l) := by cases f; rw [treeF]; rfl
 have hleaf := leaf_fn (X := X) 4 f.name
 have hit := in_it (X := X) f (by omega) hrec
 by_cases h7 : f.kind = 7
 ·rw [hval, if_pos h7]
  refine fn_prog (tab_elm tabOk) mixed Tryz.f81 Tryz.func81 (by kernel_rfl) (by kernel_rfl) ?_
  conv => whnf
  (refine ⟨some [9999], by kernel_rfl, ⟨(.one 0 (.one 1 (.one 2 (.one 3 (.one 4 (.one 5 (.one 6 (.or (.one 7 (.one 8 (.one 9 (.one 10 .nil)))) (.one 8 (.one 7 (.one 9 (.one 10 .nil)))))))))))), by kernel_rfl, ?_, ?_, ?_⟩⟩; rotate_left; (focus ((conv => whnf); (repeat' (first | ((refine ⟨rfl, _, wrap64 w1 w2, ?_⟩) <;> (conv => whnf)) | (((with_reducible apply st_call (hleaf)); (focus ((repeat' first|exact trivial|exact rfl|exact .inl rfl|exact .inr ⟨rfl,rfl⟩|refine And.intro ?_ ?_);done)); (focus (exact rfl)); (focus (exact rfl))) <;> (conv => whnf)) | ((refine And.intro ?_ ?_) <;> (conv => whnf)) | (exact St.le_refl _) | (refine ⟨rfl, ?_, ?_, ?_⟩ <;> (repeat' (first | exact trivial | (refine ⟨rfl, ?_⟩))); done) | fail))))); conv => whnf
  refine ⟨rfl, cmp_true h7 ?_⟩
  conv => whnf
  (refine st_call (leaf_fn 135 f.name) ?_ rfl rfl ?_; (focus ((repeat' first|exact trivial|exact rfl|exact .inl rfl|exact .inr ⟨rfl,rfl⟩|refine And.intro ?_ ?_);done)); conv => whnf)
  exact ⟨.inl rfl, rfl⟩
 by_cases h4 : f.kind = 4
 ·rw [hval, if_neg h7, if_pos h4]
  refine fn_prog (tab_elm tabOk) mixed Tryz.f81 Tryz.func81 (by kernel_rfl) (by kernel_rfl) ?_
  conv => whnf
  (refine ⟨some [9999], by kernel_rfl, ⟨(.one 0 (.one 1 (.one 2 (.one 3 (.one 4 (.one 5 (.one 6 (.or (.one 7 (.one 8 (.one 9 (.one 10 .nil)))) (.one 8 (.one 7 (.one 9 (.one 10 .nil)))))))))))), by kernel_rfl, ?_, ?_, ?_⟩⟩; rotate_left; (focus ((conv => whnf); (repeat' (first | ((refine ⟨rfl, _, wrap64 w1 w2, ?_⟩) <;> (conv => whnf)) | (((with_reducible apply st_call (hleaf)); (focus ((repeat' first|exact trivial|exact rfl|exact .inl rfl|exact .inr ⟨rfl,rfl⟩|refine And.intro ?_ ?_);done)); (focus (exact rfl)); (focus (exact rfl))) <;> (conv => whnf)) | ((refine And.intro ?_ ?_) <;> (conv => whnf)) | (exact St.le_refl _) | (refine ⟨rfl, ?_, ?_, ?_⟩ <;> (repeat' (first | exact trivial | (refine ⟨rfl, ?_⟩))); done) | fail))))); conv => whnf
  refine ⟨rfl, cmp_false h7 ?_⟩
  conv => whnf
  refine ⟨rfl, cmp_true h4 ?_⟩
  conv => whnf
  refine ⟨none, by kernel_rfl, ?_⟩; conv => whnf
  (refine st_call (pieces_fn f (by omega)) ?_ rfl rfl ?_; (focus ((repeat' first|exact trivial|exact rfl|exact .inl rfl|exact .inr ⟨rfl,rfl⟩|refine And.intro ?_ ?_);done)); conv => whnf)
  (refine st_call (node_two_fn (160 + f.kind) (leafN 4 f.name) (.mk 48 (bt' []) (pcsN f.value f.any f.final))) ?_ rfl rfl ?_; (focus ((repeat' first|exact trivial|exact rfl|exact .inl rfl|exact .inr ⟨rfl,rfl⟩|refine And.intro ?_ ?_);done)); conv => whnf)
  exact ⟨.inl rfl, rfl⟩
 by_cases hi : f.kind = 3 ∨ f.kind = 5 ∨ f.kind = 6 ∨ f.kind = 8
 ·rw [hval, if_neg h7, if_neg h4, if_pos hi]
  refine fn_prog (tab_elm tabOk) mixed Tryz.f81 Tryz.func81 (by kernel_rfl) (by kernel_rfl) ?_
  conv => whnf
  (refine ⟨some [9999], by kernel_rfl, ⟨(.one 0 (.one 1 (.one 2 (.one 3 (.one 4 (.one 5 (.one 6 (.or (.one 7 (.one 8 (.one 9 (.one 10 .nil)))) (.one 8 (.one 7 (.one 9 (.one 10 .nil)))))))))))), by kernel_rfl, ?_, ?_, ?_⟩⟩; rotate_left; (focus ((conv => whnf); (repeat' (first | ((refine ⟨rfl, _, wrap64 w1 w2, ?_⟩) <;> (conv => whnf)) | (((with_reducible apply st_call (hleaf)); (focus ((repeat' first|exact trivial|exact rfl|exact .inl rfl|exact .inr ⟨rfl,rfl⟩|refine And.intro ?_ ?_);done)); (focus (exact rfl)); (focus (exact rfl))) <;> (conv => whnf)) | ((refine And.intro ?_ ?_) <;> (conv => whnf)) | (exact St.le_refl _) | (refine ⟨rfl, ?_, ?_, ?_⟩ <;> (repeat' (first | exact trivial | (refine ⟨rfl, ?_⟩))); done) | fail))))); conv => whnf
  refine ⟨rfl, cmp_false h7 ?_⟩
  conv => whnf
  refine ⟨rfl, cmp_false h4 ?_⟩
  conv => whnf
  refine ⟨rfl, cmp_split (fun e3 => ?_) (fun e3 => ?_)⟩
  rotate_left
  conv => whnf
  refine ⟨rfl, cmp_split (fun e5 => ?_) (fun e5 => ?_)⟩
  rotate_left
  conv => whnf
  refine ⟨rfl, cmp_split (fun e6 => ?_) (fun e6 => ?_)⟩
  rotate_left
  conv => whnf
  refine ⟨rfl, cmp_true (by omega) ?_⟩
  all_goals
   conv => whnf
   refine ⟨none, by kernel_rfl, ?_⟩; conv => whnf
   (refine st_call (leaf_fn 4 f.value) ?_ rfl rfl ?_; (focus ((repeat' first|exact trivial|exact rfl|exact .inl rfl|exact .inr ⟨rfl,rfl⟩|refine And.intro ?_ ?_);done)); conv => whnf)
   (refine st_call (node_two_fn (160 + f.kind) (leafN 4 f.name) (leafN 4 f.value)) ?_ rfl rfl ?_; (focus ((repeat' first|exact trivial|exact rfl|exact .inl rfl|exact .inr ⟨rfl,rfl⟩|refine And.intro ?_ ?_);done)); conv => whnf)
   exact ⟨.inl rfl, rfl⟩
 ·rw [hval, if_neg h7, if_neg h4, if_neg hi]
  refine fn_prog (tab_elm tabOk) mixed Tryz.f81 Tryz.func81 (by kernel_rfl) (by kernel_rfl) ?_
  conv => whnf
  (refine ⟨some [9999], by kernel_rfl, ⟨(.one 0 (.one 1 (.one 2 (.one 3 (.one 4 (.one 5 (.one 6 (.or (.one 7 (.one 8 (.one 9 (.one 10 .nil)))) (.one 8 (.one 7 (.one 9 (.one 10 .nil)))))))))))), by kernel_rfl, ?_, ?_, ?_⟩⟩; rotate_left; (focus ((conv => whnf); (repeat' (first | ((refine ⟨rfl, _, wrap64 w1 w2, ?_⟩) <;> (conv => whnf)) | (((with_reducible apply st_call (hleaf)); (focus ((repeat' first|exact trivial|exact rfl|exact .inl rfl|exact .inr ⟨rfl,rfl⟩|refine And.intro ?_ ?_);done)); (focus (exact rfl)); (focus (exact rfl))) <;> (conv => whnf)) | ((refine And.intro ?_ ?_) <;> (conv => whnf)) | (exact St.le_refl _) | (refine ⟨rfl, ?_, ?_, ?_⟩ <;> (repeat' (first | exact trivial | (refine ⟨rfl, ?_⟩))); done) | fail))))); conv => whnf
  refine ⟨rfl, cmp_false h7 ?_⟩
  conv => whnf
  refine ⟨rfl, cmp_false h4 ?_⟩
  conv => whnf
  refine ⟨rfl, cmp_false (by omega) ?_⟩
  conv => whnf
  refine ⟨rfl, cmp_false (by omega) ?_⟩
  conv => whnf
  refine ⟨rfl, cmp_false (by omega) ?_⟩
  conv => whnf
  refine ⟨rfl, cmp_false (by omega) ?_⟩
  conv => whnf
  (refine st_call (node_nil_fn (160 + f.kind)) ?_ rfl rfl ?_; (focus ((repeat' first|exact trivial|exact rfl|exact .inl rfl|exact .inr ⟨rfl,rfl⟩|refine And.intro ?_ ?_);done)); conv => whnf)
  (refine st_call (in_fn f) ?_ rfl rfl ?_; (focus ((repeat' first|exact trivial|exact rfl|exact .inl rfl|exact .inr ⟨rfl,rfl⟩|refine And.intro ?_ ?_);done)); conv => whnf)
  refine ⟨_, _, fun j => ⟨60, [(2, .ptr 2 0), (5, .ptr 5 0)], [(2, [.v (.int .i64 0), .v (.str (bt' [])), .v .nils]), (5, [.v (.int .i64 (160 + f.kind)), .v (.str (bt' [])), .own 56 46 ((f.l.take j).map fun x => cM (treeF x))])], [(56, some 46)]⟩, fun j => j ≤ f.l.length, hit, ⟨rfl, trivial⟩, rfl, ⟨Nat.zero_le _, [(56, none)], ?_⟩, fun j => rfl, (show ∀ q ∈ [50], q < 60 by decide), fun j v hv hj => ?_, fun hj => ?_⟩
  ·(focus ((repeat' first|exact trivial|exact rfl|exact .inl rfl|exact .inr ⟨rfl,rfl⟩|refine And.intro ?_ ?_);done))
  ·have hjl : j < f.l.length := by
    have h1 := (List.getElem?_eq_some_iff.1 hv).1
    unfold inY at h1
    rwa [List.length_map] at h1
   have hv2 : v = [.agg (cM (treeF f.l[j]))] := by
    unfold inY at hv
    rw [List.getElem?_map, List.getElem?_eq_getElem hjl] at hv
    exact (Option.some.inj hv).symm
   subst hv2
   refine ⟨rfl, ?_⟩
   conv => whnf
   have hsz : ((f.l.take j).map fun x => cM (treeF x)).length + 1 ≤ 1000000000 := by
    rw [List.length_map, List.length_take]; omega
   (refine ⟨some [9999], by kernel_rfl, ⟨(.one 0 (.one 1 (.one 2 (.one 3 (.one 4 (.one 5 (.one 6 (.one 8 (.or (.one 7 (.one 9 .nil)) (.one 9 (.one 7 .nil))))))))))), by kernel_rfl, ?_, ?_, ?_⟩⟩; rotate_left; (focus ((conv => whnf); (repeat' (first | ((refine ⟨rfl, hsz, (by intro c hc; simp at hc; rw [hc]; rfl), ?_⟩) <;> (conv => whnf)) | ((refine ⟨rfl, rfl, ?_⟩) <;> (conv => whnf)) | ((refine ⟨hsz, ?_⟩) <;> (conv => whnf)) | ((refine And.intro ?_ ?_) <;> (conv => whnf)) | (exact St.le_refl _) | (refine ⟨rfl, ?_, ?_, ?_⟩ <;> (repeat' (first | exact trivial | (refine ⟨rfl, ?_⟩))); done) | fail))))); conv => whnf
   refine ⟨hjl, [(56, some 56)], ?_⟩
   dsimp only
   rw [List.take_succ_eq_append_getElem hjl, List.map_append]
   (focus ((repeat' first|exact trivial|exact rfl|exact .inl rfl|exact .inr ⟨rfl,rfl⟩|refine And.intro ?_ ?_);done))
  ·conv => whnf
   rw [show (inY f.l).length = f.l.length from by unfold inY; rw [List.length_map], List.take_length]
   rw [treeFs_map]
   have he : (f.l.map fun x => cM (treeF x)) = (f.l.map treeF).map cN := by
    rw [List.map_map]
    exact List.map_congr_left fun x _ => (cM_eq _).symm
   rw [he]
   exact ⟨.inl rfl, rfl⟩
mutual
theorem make_fn : ∀ (f : Flt) (d : Nat), rightF d f = true → Fn Tryz.prog X 81 [.v (.agg (cG f))] (.v (.agg (cM (treeF f))))
 | .mk k n v a fi l, d, h => by
  obtain ⟨g1, g2, g3, g4⟩ := kind_ok h
  have hr : rightFs (d + 1) l = true := (right_one h).2.2
  exact make_one _ g1 g2 g3 g4 (make_fns l (d + 1) hr)
theorem make_fns : ∀ (l : List Flt) (d : Nat), rightFs d l = true → ∀ x ∈ l, Fn Tryz.prog X 81 [.v (.agg (cG x))] (.v (.agg (cM (treeF x))))
 | [], d, _ => fun x hx => by cases hx
 | y :: r, d, h => fun x hx => by
  rw [rightFs, Bool.and_eq_true] at h
  have h1 := make_fn y d h.1
  have h2 := make_fns r d h.2
  rcases List.mem_cons.1 hx with e | hx
  ·rw [e]; exact h1
  ·exact h2 x hx
end
variable (p : Nat → Addr)
def treeT (f : Flt) : T := if rightF 1 f = true then .tup [.v (.agg (cM (treeF f))), .v .nili] else .tup [.v (.agg (cM nd0)), .v (bErr f.kind)]
set_option maxHeartbeats 4000000 in
theorem tree_fn (f : Flt) (hf : midF f) (hN : (preF 1 f).length ≤ 900000000) : Fn Tryz.prog (envX p) 55 [.v (.agg (cG f))] (treeT f) := by
 have hr := Fi.right_fn p f hf hN
 unfold treeT
 cases hR : rightF 1 f
 ·rw [hR] at hr
  rw [if_neg (by decide)]
  refine fn_prog tabOk mixed Tryz.f55 Tryz.func55 (by kernel_rfl) (by kernel_rfl) ?_
  conv => whnf
  (refine st_call hr ?_ rfl rfl ?_; (focus ((repeat' first|exact trivial|exact rfl|exact .inl rfl|exact .inr ⟨rfl,rfl⟩|refine And.intro ?_ ?_);done)); conv => whnf)
  refine ⟨some [0, 1, 1002, 3, 4, 5, 6], by kernel_rfl, ?_⟩; conv => whnf
  (focus ((repeat' first|exact trivial|exact rfl|exact .inl rfl|exact .inr ⟨rfl,rfl⟩|refine And.intro ?_ ?_);done))
 ·rw [hR] at hr
  rw [if_pos rfl]
  refine fn_prog tabOk mixed Tryz.f55 Tryz.func55 (by kernel_rfl) (by kernel_rfl) ?_
  conv => whnf
  (refine st_call hr ?_ rfl rfl ?_; (focus ((repeat' first|exact trivial|exact rfl|exact .inl rfl|exact .inr ⟨rfl,rfl⟩|refine And.intro ?_ ?_);done)); conv => whnf)
  (refine st_call (make_fn f 1 hR) ?_ rfl rfl ?_; (focus ((repeat' first|exact trivial|exact rfl|exact .inl rfl|exact .inr ⟨rfl,rfl⟩|refine And.intro ?_ ?_);done)); conv => whnf)
  (focus ((repeat' first|exact trivial|exact rfl|exact .inl rfl|exact .inr ⟨rfl,rfl⟩|refine And.intro ?_ ?_);done))
def TreeT (f : Flt) : T := if rightF 1 f = true then .tup [.v (.agg (cM (treeF f))), .v (.int .i64 0)] else .tup [.v (.agg (cM nd0)), .v (.int .i64 80)]
theorem Tree_fn (f : Flt) (hf : midF f) (hN : (preF 1 f).length ≤ 900000000) : Fn Tryz.prog (envX p) 32 [.v (.agg (cG f))] (TreeT f) := by
 have ht := tree_fn p f hf hN
 unfold treeT at ht
 unfold TreeT
 cases hR : rightF 1 f
 ·rw [hR, if_neg (by decide)] at ht
  rw [if_neg (by decide)]
  refine fn_prog tabOk mixed Tryz.f32 Tryz.func32 (by kernel_rfl) (by kernel_rfl) ?_
  conv => whnf
  (refine st_call ht ?_ rfl rfl ?_; (focus ((repeat' first|exact trivial|exact rfl|exact .inl rfl|exact .inr ⟨rfl,rfl⟩|refine And.intro ?_ ?_);done)); conv => whnf)
  refine ⟨none, by kernel_rfl, ?_⟩; conv => whnf
  (refine st_call (told_wrong_fn p f.kind) ?_ rfl rfl ?_; (focus ((repeat' first|exact trivial|exact rfl|exact .inl rfl|exact .inr ⟨rfl,rfl⟩|refine And.intro ?_ ?_);done)); conv => whnf)
  (focus ((repeat' first|exact trivial|exact rfl|exact .inl rfl|exact .inr ⟨rfl,rfl⟩|refine And.intro ?_ ?_);done))
 ·rw [hR, if_pos rfl] at ht
  rw [if_pos rfl]
  refine fn_prog tabOk mixed Tryz.f32 Tryz.func32 (by kernel_rfl) (by kernel_rfl) ?_
  conv => whnf
  (refine st_call ht ?_ rfl rfl ?_; (focus ((repeat' first|exact trivial|exact rfl|exact .inl rfl|exact .inr ⟨rfl,rfl⟩|refine And.intro ?_ ?_);done)); conv => whnf)
  refine ⟨none, by kernel_rfl, ?_⟩; conv => whnf
  (refine st_call (told_nil_fn p) ?_ rfl rfl ?_; (focus ((repeat' first|exact trivial|exact rfl|exact .inl rfl|exact .inr ⟨rfl,rfl⟩|refine And.intro ?_ ?_);done)); conv => whnf)
  (focus ((repeat' first|exact trivial|exact rfl|exact .inl rfl|exact .inr ⟨rfl,rfl⟩|refine And.intro ?_ ?_);done))
end Go.Proofs.YtiafggoaedifdaaGreatDoor.Fb
/- The walk without memory: the contract of a function that goes on with its caller's memory (variables that hold rows of one's own), out of the walk of its body. Whatever program. -/
namespace Go.Proofs.YtiafggoaedifdaaGreatDoor
open Go.RowKit
set_option linter.unusedVariables false
variable {P : Program} {X : En} {tb : Tab}
mutual
def rnT (α π : Nat → Nat) : T → T
 | .ptr i o => .ptr (α i) o
 | .own k e xs => .own (π k) e xs
 | .sub k m => .sub (π k) m
 | .fn f caps => .fn f (rnTs α π caps)
 | .tup l => .tup (rnTs α π l)
 | .un => .un
 | .v x => .v x
 | .ro cs => .ro cs
def rnTs (α π : Nat → Nat) : List T → List T
 | [] => []
 | t :: r => rnT α π t :: rnTs α π r
end
def Gh.via (g : Gh) (α π : Nat → Nat) : Gh := { L := g.L, ρ := fun i => g.ρ (α i), κ := fun k => g.κ (π k) }
mutual
theorem rnT_rep {w : World} {g : Gh} {α π : Nat → Nat} : ∀ (t : T) (v : Value), RepT P w g (rnT α π t) v ↔ RepT P w (g.via α π) t v
 | .un, _ => Iff.rfl
 | .v x, v => Iff.rfl
 | .own _ _ _, _ => Iff.rfl
 | .ptr i o, v => Iff.rfl
 | .ro cs, v => Iff.rfl
 | .sub _ _, _ => Iff.rfl
 | .fn f caps, v => ⟨fun ⟨cs, e, r⟩ => ⟨cs, e, (rnTs_rep caps _).1 r⟩, fun ⟨cs, e, r⟩ => ⟨cs, e, (rnTs_rep caps _).2 r⟩⟩
 | .tup l, v => ⟨fun ⟨cs, e, r⟩ => ⟨cs, e, (rnTs_rep l _).1 r⟩, fun ⟨cs, e, r⟩ => ⟨cs, e, (rnTs_rep l _).2 r⟩⟩
theorem rnTs_rep {w : World} {g : Gh} {α π : Nat → Nat} : ∀ (l : List T) (vs : List Value), RepTs P w g (rnTs α π l) vs ↔ RepTs P w (g.via α π) l vs
 | [], _ => Iff.rfl
 | t :: r, _ => ⟨fun ⟨u, us, e, h1, h2⟩ => ⟨u, us, e, (rnT_rep t u).1 h1, (rnTs_rep r us).1 h2⟩, fun ⟨u, us, e, h1, h2⟩ => ⟨u, us, e, (rnT_rep t u).2 h1, (rnTs_rep r us).2 h2⟩⟩
end
theorem rnTs_get {α π : Nat → Nat} : ∀ {l : List T} {k : Nat}, (rnTs α π l)[k]? = (l[k]?).map (rnT α π)
 | [], k => by simp [rnTs]
 | t :: r, 0 => rfl
 | t :: r, k + 1 => by rw [rnTs, List.getElem?_cons_succ, List.getElem?_cons_succ]; exact rnTs_get
theorem rnTs_len (α π : Nat → Nat) : ∀ l : List T, (rnTs α π l).length = l.length
 | [] => rfl
 | t :: r => by rw [rnTs, List.length_cons, List.length_cons, rnTs_len α π r]
def LeKs : List T → List T → Prop
 | [], [] => True
 | c :: cs, d :: ds => (c = d ∨ LeT c d) ∧ LeKs cs ds
 | _, _ => False
theorem LeKs.refl : ∀ l : List T, LeKs l l
 | [] => trivial
 | c :: r => ⟨.inl rfl, LeKs.refl r⟩
theorem LeKs.get : ∀ {l m : List T} {k : Nat} {d : T}, LeKs l m → m[k]? = some d → ∃ c, l[k]? = some c ∧ (c = d ∨ LeT c d)
 | [], [], _, _, _, h => by simp at h
 | c :: cs, e :: ds, 0, d, h, hk => by simp at hk; subst hk; exact ⟨c, rfl, h.1⟩
 | c :: cs, e :: ds, k + 1, d, h, hk => by
  obtain ⟨c', h1, h2⟩ := LeKs.get h.2 (k := k) (by simpa using hk)
  exact ⟨c', by simpa using h1, h2⟩
 | [], _ :: _, _, _, h, _ => h.elim
 | _ :: _, [], _, _, h, _ => h.elim
theorem Mm.via {base : Nat} {S : Nat → Prop} {w : World} {g : Gh} {bs bs1 : List (Nat × List T)} {lv lv1 : List (Nat × Option Nat)} {α π : Nat → Nat} (h : Mm P X base S w g bs1 lv1)
  (hb : ∀ {i cs}, lk i bs = some cs → ∃ c1, lk (α i) bs1 = some c1 ∧ LeKs c1 (rnTs α π cs)) (hα : ∀ {i j}, isK bs i → isK bs j → i ≠ j → α i ≠ α j)
  (hl : ∀ {k e}, lget lv k = some e → lget lv1 (π k) = some e) (hπ : ∀ {k k' e e'}, lget lv k = some e → lget lv k' = some e' → k ≠ k' → π k ≠ π k') : Mm P X base S w (g.via α π) bs lv := by
 have hK : ∀ {i}, isK bs i → isK bs1 (α i) := fun {i} hi => by
  unfold isK at hi
  obtain ⟨cs, hcs⟩ := Option.isSome_iff_exists.1 hi
  obtain ⟨c1, h1, _⟩ := hb hcs
  unfold isK; rw [h1]; rfl
 refine ⟨fun {i cs} hi {k c} hk => ?_, fun {i} hi k => h.frz (hK hi) k, fun {i} hi k => h.bxL (hK hi) k, fun {i} hi => h.bxE (hK hi), fun {i} hi => h.loc (hK hi), fun {i} hi => h.lt (hK hi), fun {i j} hi hj hij => h.inj (hK hi) (hK hj) (hα hi hj hij), fun {k e} hk => ?_, fun {k k' e e'} hk hk' hne => h.ownInj (hl hk) (hl hk') (hπ hk hk' hne), h.Lc, fun {i} hi => h.bc (hK hi), fun {k e b} hk => h.ownE (hl hk)⟩
 ·obtain ⟨c1, h1, h2⟩ := hb hi
  obtain ⟨c', h3, h4⟩ := h2.get (k := k) (d := rnT α π c) (by rw [rnTs_get, hk]; rfl)
  obtain ⟨u, hu, hr, ho⟩ := h.box h1 h3
  refine ⟨u, hu, (rnT_rep c u).1 ?_, ho⟩
  rcases h4 with rfl | h4
  ·exact hr
  ·exact LeT.rep _ _ _ h4 hr
 ·obtain ⟨n, vals, o1, o2⟩ := h.own (hl hk)
  exact ⟨n, vals, o1, fun b hb' => ⟨(o2 b hb').1, fun i hi => (o2 b hb').2 _ (hK hi)⟩⟩
def upN (n i : Nat) : Nat := n + i
def dnN (n i : Nat) : Nat := i - n
theorem dn_up (n : Nat) : (fun i => dnN n (upN n i)) = fun i => i := by funext i; unfold dnN upN; omega
mutual
theorem rn_back (n : Nat) : ∀ t : T, rnT (dnN n) (dnN n) (rnT (upN n) (upN n) t) = t
 | .un => rfl
 | .v x => rfl
 | .own k e xs => by rw [rnT, rnT, show dnN n (upN n k) = k from congrFun (dn_up n) k]
 | .ptr i o => by rw [rnT, rnT, show dnN n (upN n i) = i from congrFun (dn_up n) i]
 | .ro cs => rfl
 | .sub k m => by rw [rnT, rnT, show dnN n (upN n k) = k from congrFun (dn_up n) k]
 | .fn f caps => by rw [rnT, rnT, rns_back n caps]
 | .tup l => by rw [rnT, rnT, rns_back n l]
theorem rns_back (n : Nat) : ∀ l : List T, rnTs (dnN n) (dnN n) (rnTs (upN n) (upN n) l) = l
 | [] => rfl
 | t :: r => by rw [rnTs, rnTs, rn_back n t, rns_back n r]
end
def upB (n : Nat) : List (Nat × List T) → List (Nat × List T)
 | [] => []
 | p :: r => (n + p.1, rnTs (upN n) (upN n) p.2) :: upB n r
def upL (n : Nat) : List (Nat × Option Nat) → List (Nat × Option Nat)
 | [] => []
 | p :: r => (n + p.1, p.2) :: upL n r
theorem upB_lk (n : Nat) : ∀ (bs : List (Nat × List T)) (i : Nat) (cs : List T), lk i (upB n bs) = some cs → ∃ cs0, n ≤ i ∧ lk (i - n) bs = some cs0 ∧ cs = rnTs (upN n) (upN n) cs0
 | [], i, cs, h => by cases h
 | p :: r, i, cs, h => by
  rw [upB] at h
  by_cases hi : i = n + p.1
  ·rw [hi, lk_cons_eq] at h
   cases h
   obtain ⟨p1, p2⟩ := p
   exact ⟨p2, by omega, by rw [hi, Nat.add_sub_cancel_left]; exact lk_cons_eq _ _ _, rfl⟩
  ·rw [lk_cons_ne _ _ hi] at h
   obtain ⟨cs0, h1, h2, h3⟩ := upB_lk n r i cs h
   obtain ⟨p1, p2⟩ := p
   exact ⟨cs0, h1, by rw [lk_cons_ne _ _ (by dsimp only at *; omega)]; exact h2, h3⟩
theorem upL_lk (n : Nat) : ∀ (lv : List (Nat × Option Nat)) (i : Nat), n ≤ i ∧ lk i (upL n lv) = lk (i - n) lv ∨ i < n ∧ lk i (upL n lv) = none
 | [], i => by
  rcases Nat.lt_or_ge i n with h | h
  ·exact .inr ⟨h, rfl⟩
  ·exact .inl ⟨h, rfl⟩
 | p :: r, i => by
  obtain ⟨p1, p2⟩ := p
  rw [upL]
  by_cases hi : i = n + p1
  ·subst hi
   exact .inl ⟨by omega, by rw [lk_cons_eq, Nat.add_sub_cancel_left, lk_cons_eq]⟩
  ·rw [lk_cons_ne _ _ hi]
   rcases upL_lk n r i with ⟨h1, h2⟩ | ⟨h1, h2⟩
   ·exact .inl ⟨h1, by rw [h2, lk_cons_ne _ _ (by omega)]⟩
   ·exact .inr ⟨h1, h2⟩
theorem upL_get {n : Nat} {lv : List (Nat × Option Nat)} {i e : Nat} (h : lget (upL n lv) i = some e) : n ≤ i ∧ lget lv (i - n) = some e := by
 unfold lget at h ⊢
 rcases upL_lk n lv i with ⟨h1, h2⟩ | ⟨h1, h2⟩
 ·rw [h2] at h; exact ⟨h1, h⟩
 ·rw [h2] at h; cases h
def St.headI (n : Nat) (args : List T) (bs : List (Nat × List T)) (lv : List (Nat × Option Nat)) : St := { n := n, env := argsE 0 (rnTs (upN n) (upN n) args), bs := upB n bs, lv := upL n lv }
theorem headI {args : List T} {bs : List (Nat × List T)} {lv : List (Nat × Option Nat)} {n base : Nat} {S : Nat → Prop} {w : World} {g : Gh} {vs : List Value} (hn : Nat.ble args.length n = true) (hE : X.E w) (hb : base ≤ w.heap.size) (hm : Mm P X base S w g bs lv) (hargs : RepTs P w g args vs) :
  Hd P X base S (St.headI n args bs lv) { tmps := vs.toArray ++ Array.replicate (n - vs.toArray.size) undef, defers := [] } w (g.via (dnN n) (dnN n)) := by
 have hn' := Nat.le_of_ble_eq_true hn
 have hvl := hargs.length
 have hg : (g.via (dnN n) (dnN n)).via (upN n) (upN n) = g := by
  unfold Gh.via
  congr 1
  ·funext i; exact congrArg g.ρ (congrFun (dn_up n) i)
  ·funext i; exact congrArg g.κ (congrFun (dn_up n) i)
 have hsh : RepTs P w (g.via (dnN n) (dnN n)) (rnTs (upN n) (upN n) args) vs := (rnTs_rep args vs).2 (by rw [hg]; exact hargs)
 refine ⟨by simp [St.headI]; omega, fun t => ?_, ?_, hE, hb⟩
 ·have := argsE_get 0 t hsh
  rw [if_neg (by omega), Nat.sub_zero] at this
  refine Eq.mpr ?_ this
  congr 1
  show ((vs.toArray ++ Array.replicate (n - vs.toArray.size) undef).getD t undef) = _
  rw [Array.getD_eq_getD_getElem?, List.getD_eq_getElem?_getD]
  by_cases ht : t < vs.length
  ·rw [Array.getElem?_append_left (by simpa using ht)]; simp
  ·rw [Array.getElem?_append_right (by simpa using ht), List.getElem?_eq_none (by omega)]
   by_cases h2 : t - vs.toArray.size < n - vs.toArray.size
   ·rw [Array.getElem?_replicate, if_pos h2]; rfl
   ·rw [Array.getElem?_replicate, if_neg h2]
 ·have ge : ∀ {i : Nat}, isK (upB n bs) i → n ≤ i := fun {i} hi => by
   unfold isK at hi
   obtain ⟨cs, hcs⟩ := Option.isSome_iff_exists.1 hi
   exact (upB_lk n bs i cs hcs).choose_spec.1
  refine hm.via (fun {i cs} hi => ?_) (fun {i j} hi hj hij => ?_) (fun {k e} hk => (upL_get hk).2) (fun {k k' e e'} hk hk' hne => ?_)
  ·obtain ⟨cs0, h1, h2, rfl⟩ := upB_lk n bs i cs hi
   refine ⟨cs0, h2, ?_⟩
   rw [rns_back]
   exact LeKs.refl _
  ·have h1 := ge hi
   have h2 := ge hj
   unfold dnN; omega
  ·have h1 := (upL_get hk).1
   have h2 := (upL_get hk').1
   unfold dnN; omega
def ovr (π : List (Nat × Nat)) (n k : Nat) : Nat := match lk k π with
 | some d => d
 | none => n + k
def bsEnd (st : St) (n : Nat) (π : Nat → Nat) : List (Nat × List T) → Prop
 | [] => True
 | p :: r => (match lk (n + p.1) st.bs with
  | some c => LeKs c (rnTs (upN n) π p.2)
  | none => False) ∧ bsEnd st n π r
def lvEnd (st : St) (π : Nat → Nat) : List (Nat × Option Nat) → Prop
 | [] => True
 | p :: r => (match p.2 with
  | some e => lget st.lv (π p.1) = some e
  | none => True) ∧ lvEnd st π r
def lvInj (π : Nat → Nat) : List (Nat × Option Nat) → List Nat
 | [] => []
 | p :: r => π p.1 :: lvInj π r
theorem bsEnd_get {st : St} {n : Nat} {π : Nat → Nat} : ∀ {bs : List (Nat × List T)} {i : Nat} {cs : List T}, bsEnd st n π bs → lk i bs = some cs → ∃ c1, lk (upN n i) st.bs = some c1 ∧ LeKs c1 (rnTs (upN n) π cs)
 | [], _, _, _, h => by cases h
 | p :: r, i, cs, h, hi => by
  obtain ⟨p1, p2⟩ := p
  by_cases e : i = p1
  ·subst e
   rw [lk_cons_eq] at hi
   cases hi
   obtain ⟨h1, _⟩ := h
   split at h1
   ·rename_i c hc; exact ⟨c, hc, h1⟩
   ·exact h1.elim
  ·rw [lk_cons_ne _ _ e] at hi
   exact bsEnd_get h.2 hi
theorem lvEnd_get {st : St} {π : Nat → Nat} : ∀ {lv : List (Nat × Option Nat)} {k e : Nat}, lvEnd st π lv → lget lv k = some e → lget st.lv (π k) = some e
 | [], _, _, _, h => by cases h
 | p :: r, k, e, h, hk => by
  obtain ⟨p1, p2⟩ := p
  by_cases e0 : k = p1
  ·subst e0
   unfold lget at hk
   rw [lk_cons_eq] at hk
   cases p2 with
   | none => cases hk
   | some e1 =>
    cases hk
    exact h.1
  ·unfold lget at hk
   rw [lk_cons_ne _ _ e0] at hk
   exact lvEnd_get h.2 hk
theorem lvInj_ne {π : Nat → Nat} : ∀ {lv : List (Nat × Option Nat)} {k k' e e' : Nat}, nodupB (lvInj π lv) = true → lget lv k = some e → lget lv k' = some e' → k ≠ k' → π k ≠ π k' := by
 intro lv k k' e e' hn hk hk' hne
 have mem : ∀ {lv : List (Nat × Option Nat)} {k e : Nat}, lget lv k = some e → ∃ j : Nat, (lv[j]?).map (·.1) = some k := by
  intro lv
  induction lv with
  | nil => intro k e h; cases h
  | cons p r ih =>
   intro k e h
   obtain ⟨p1, p2⟩ := p
   by_cases e0 : k = p1
   ·exact ⟨0, by rw [e0]; rfl⟩
   ·unfold lget at h
    rw [lk_cons_ne _ _ e0] at h
    obtain ⟨j, hj⟩ := ih (k := k) (e := e) h
    exact ⟨j + 1, by simpa using hj⟩
 have at_ : ∀ (lv : List (Nat × Option Nat)) (j : Nat), (lvInj π lv)[j]? = (lv[j]?).map fun p => π p.1 := by
  intro lv
  induction lv with
  | nil => intro j; rfl
  | cons p r ih =>
   intro j
   cases j with
   | zero => rfl
   | succ j => simpa [lvInj] using ih j
 obtain ⟨j, hj⟩ := mem hk
 obtain ⟨j', hj'⟩ := mem hk'
 have e1 : (lvInj π lv)[j]? = some (π k) := by
  rw [at_]
  obtain ⟨q, hq, rfl⟩ := Option.map_eq_some_iff.1 hj
  rw [hq]; rfl
 have e2 : (lvInj π lv)[j']? = some (π k') := by
  rw [at_]
  obtain ⟨q, hq, rfl⟩ := Option.map_eq_some_iff.1 hj'
  rw [hq]; rfl
 intro e
 have hjj : j ≠ j' := by rintro rfl; rw [hj] at hj'; exact hne (Option.some.inj hj')
 exact hjj (nodupB_ne hn e1 (by rw [e]; exact e2))
def endQI (tb : Tab) (rs : List ResultVar) (r : T) (n : Nat) (π : Nat → Nat) (bs' : List (Nat × List T)) (lv' : List (Nat × Option Nat)) : Exit → St → Prop
 | .normal, st => match resTs tb st rs with
  | some ts => resOk ts r ∧ bsEnd st n π bs' ∧ lvEnd st π lv'
  | none => False
 | .ret, st => match resTs tb st rs with
  | some ts => resOk ts r ∧ bsEnd st n π bs' ∧ lvEnd st π lv'
  | none => False
 | _, _ => False
theorem fnI_of (hT : TabOk P tb) (hm : P.follows .mixedOrders = true) {f : FuncId} {fn : Func} {c : Code} {args : List T} {bs bs' : List (Nat × List T)} {lv lv' : List (Nat × Option Nat)} {r : T} (π : Nat → Nat) (hf : P.funcs[f]? = some fn) (hb : fn.body = some c)
  (hen : ∀ (vs : Array Value) (w : World), (callFunc f vs).run P w = .ok (.enter f vs) w) (hn : Nat.ble args.length fn.ntmps = true) (hinj : nodupB (lvInj π lv') = true)
  (h : aCode P X tb c (endQI tb fn.results.toList r fn.ntmps π bs' lv') (St.headI fn.ntmps args bs lv)) : FnI P X f args bs lv r bs' lv' := by
 refine ⟨hen, fun X' hX base S w g vs hE hba hmm hargs => ?_⟩
 have hd := headI (n := fn.ntmps) hn hE hba hmm hargs
 have hw := code_wp hT hm c X' hX base fn.ntmps S Fence.wide 1 (.inl rfl) (fun _ => True) (fun _ _ => trivial) _ _ _ w _ (fun ch st h => h.elim) (fun l hl => by cases hl) h hd rfl
 refine callsIn_wide.1 (callsIn_of_wp_marks (n := 1) hf hb trivial (wpIn_mono hw ?_))
 rintro e a' w' ⟨st', g', q1, q2, q3, q4, q5, ms, q6, q7⟩
 rw [List.append_nil] at q6
 have fin : (match resTs tb st' fn.results.toList with | some ts => resOk ts r ∧ bsEnd st' fn.ntmps π bs' ∧ lvEnd st' π lv' | none => False) → LeavesInM Fence.wide 1 P fn a'.tmps (fun e w' => ∃ v g', e = .returned v ∧ X'.E w' ∧ Stp X' base S 0 w g w' g' ∧ Mm P X' base S w' g' bs' lv' ∧ RepT P w' g' r v) a'.defers .returning w' := fun hr => by
  split at hr
  ·rename_i ts hts
   obtain ⟨hr, hbe, hle⟩ := hr
   rw [q6]
   refine leaves_marks hT hE ms st' a' w' g' q2 q7 hts hr fun v w2 hu hd2 hrv hpv => ?_
   have hu1 := q3.upd
   refine ⟨v, g'.via (upN fn.ntmps) π, rfl, hd2.E, ⟨hu1.trans (hu.mono fun b h => .inr (Nat.le_trans hba h)), ⟨fun b o u h1 h2 => ?_, fun k o h1 h2 => (hu.block k (Array.getElem?_eq_some_iff.1 (q3.same.m k o h1 h2)).1 (by have := (Array.getElem?_eq_some_iff.1 h1).1; omega)).trans (q3.same.m k o h1 h2)⟩, fun {b o} h => q3.newL h, fun {i} _ => ?_, fun {k o} hk hc => ?_⟩, hd2.mm.via (fun {i cs} hi => bsEnd_get hbe hi) (fun {i j} _ _ hij => by unfold upN; omega) (fun {k e} hk => lvEnd_get hle hk) (fun {k k' e e'} hk hk' hne => lvInj_ne hinj hk hk' hne), RepT.pure (g := g') (g' := g'.via (upN fn.ntmps) π) (w' := w2) hpv (Same.refl _ _) hrv⟩
   ·obtain ⟨h3, h4⟩ := q3.same.c b o u h1 h2
    have hbl := World.block_lt_of_cell? w _ h2
    exact ⟨h3, hu.cell h4 (by dsimp only at *; omega)⟩
   ·show g'.ρ (fn.ntmps + i) = g.ρ i
    rw [q3.rho (Nat.le_add_right _ _)]
    exact congrArg g.ρ (congrFun (dn_up fn.ntmps) i)
   ·have h1 := q3.obj hk hc
    have hlt := (Array.getElem?_eq_some_iff.1 hk).1
    rw [hu.block k (Nat.lt_of_lt_of_le hlt hu1.size) (by omega)]
    exact h1
  ·exact hr.elim
 cases e with
 | normal => exact fin q1
 | ret => exact fin q1
 | exit id => exact q1.elim
 | goto l => exact q1.elim
 | panic ch => exact q1.elim
 | outgrown => exact q1.elim
theorem fnI_prog (hT : TabOk P tb) (hm : P.follows .mixedOrders = true) {f : FuncId} (fn : Func) {args : List T} {bs bs' : List (Nat × List T)} {lv lv' : List (Nat × Option Nat)} {r : T} (π : Nat → Nat) (hf : P.funcs[f]? = some fn) (hb : (fn.name == "runtime.NumGoroutine" || fn.body.isNone) = false) (hn : Nat.ble args.length fn.ntmps = true) (hinj : nodupB (lvInj π lv') = true)
  (h : aCode P X tb (bodyOf fn) (endQI tb fn.results.toList r fn.ntmps π bs' lv') (St.headI fn.ntmps args bs lv)) : FnI P X f args bs lv r bs' lv' := by
 cases hc : fn.body with
 | none => rw [hc] at hb; simp at hb
 | some c =>
  refine fnI_of hT hm π hf hc (enter_of (by rw [hf, Option.map_some, hb])) hn hinj ?_
  unfold bodyOf at h
  rw [hc] at h
  exact h
theorem st_callI {f : FuncId} {P : Program} {X : En} {st : St} {bs args : List T} {r : T} {bs' : List (Nat × List T)} {lv' : List (Nat × Option Nat)} {K : T → St → Prop} (h : FnI P X f args st.bs st.lv r bs' lv') (hl : LeTs bs args) {Z : Prop} (hK : frcAll (St.mk st.n (scrEnv scrO st.env) bs' lv') fun st' => K r st') :
  Z ∨ ∃ (args : List T) (r : T) (bs' : List (Nat × List T)) (lv' : List (Nat × Option Nat)), (Cn P X).inl f args st.bs st.lv r bs' lv' ∧ LeTs bs args ∧ frcAll (St.mk st.n (scrEnv scrO st.env) bs' lv') fun st' => K r st' :=
 .inr ⟨args, r, bs', lv', h, hl, hK⟩
end Go.Proofs.YtiafggoaedifdaaGreatDoor
/- fber, walked: kinds of tags, two in a tree, pieces put. Conditions: at most 10^8 pieces. -/
namespace Go.Proofs.YtiafggoaedifdaaGreatDoor.Fb
open Go.RowKit Go.Shelf Go.Lib Fl Tl
open Fi (one_arg cG cF cFs cG_eq midF midFs encS f0)
set_option linter.unusedVariables false
variable {X : En}
def kindKs : List V := [.int .i64 160, .int .i64 161, .int .i64 162, .int .i64 163, .int .i64 164, .int .i64 165, .int .i64 166, .int .i64 135, .int .i64 168]
def kindVs : List V := [.int .i64 0, .int .i64 1, .int .i64 2, .int .i64 3, .int .i64 4, .int .i64 5, .int .i64 6, .int .i64 7, .int .i64 8]
theorem kinds_fn : Fn Tryz.prog X 106 [] (.v (.mp kindKs kindVs)) := by
 refine fn_prog tabOk mixed Tryz.f106 Tryz.func106 (by kernel_rfl) (by kernel_rfl) ?_
 conv => whnf
 exact ⟨.inl rfl, rfl⟩
theorem kind_get (t : Int) : mget (.int .i64 t) kindKs kindVs = (kindOf t).map fun k => V.int .i64 k := by
 unfold kindKs kindVs kindOf kindsL
 by_cases h0 : t = 160
 ·subst h0; rfl
 by_cases h1 : t = 161
 ·subst h1; rfl
 by_cases h2 : t = 162
 ·subst h2; rfl
 by_cases h3 : t = 163
 ·subst h3; rfl
 by_cases h4 : t = 164
 ·subst h4; rfl
 by_cases h5 : t = 165
 ·subst h5; rfl
 by_cases h6 : t = 166
 ·subst h6; rfl
 by_cases h7 : t = 135
 ·subst h7; rfl
 by_cases h8 : t = 168
 ·subst h8; rfl
 have g : ∀ a : Int, t ≠ a → ¬ a = t := fun a h e => h e.symm
 simp [mget, h0, h1, h2, h3, h4, h5, h6, h7, h8, g _ h0, g _ h1, g _ h2, g _ h3, g _ h4, g _ h5, g _ h6, g _ h7, g _ h8]
theorem kind_range {t k : Int} (h : kindOf t = some k) : 0 ≤ k ∧ k ≤ 8 := by
 unfold kindOf kindsL at h
 obtain ⟨q, hq, rfl⟩ := Option.map_eq_some_iff.1 h
 have hm := List.mem_of_find?_eq_some hq
 simp only [List.mem_cons, List.not_mem_nil, or_false] at hm
 rcases hm with rfl | rfl | rfl | rfl | rfl | rfl | rfl | rfl | rfl <;> exact ⟨by decide, by decide⟩
def twoT (n : Nd) : T := match n.kids with
 | [x, y] => if x.tag = 4 then .tup [.v (.str x.data), .v (.agg (cM y)), .v .nili] else .tup [.v (.str (bt' [])), .v (.agg (cM nd0)), .v (bErr n.tag)]
 | _ => .tup [.v (.str (bt' [])), .v (.agg (cM nd0)), .v (bErr n.tag)]
set_option maxHeartbeats 4000000 in
theorem two_fn (n : Nd) : Fn Tryz.prog X 107 [.v (.agg (cM n))] (twoT n) := by
 by_cases hl : n.kids.length = 2
 ·obtain ⟨t, d, k⟩ := n
  match k, hl with
  | [x, y], hl =>
   unfold twoT
   by_cases hx : x.tag = 4
   ·show Fn _ _ _ _ (if x.tag = 4 then _ else _)
    rw [if_pos hx]
    refine fn_prog tabOk mixed Tryz.f107 Tryz.func107 (by kernel_rfl) (by kernel_rfl) ?_
    conv => whnf
    refine ⟨rfl, cmp_false (fun h => h rfl) ?_⟩
    conv => whnf
    refine st_idxN (xs := [x, y]) (i := 0) (by simp) ?_
    conv => whnf
    refine ⟨rfl, cmp_false (fun h => h hx) ?_⟩
    conv => whnf
    refine ⟨none, by kernel_rfl, ?_⟩; conv => whnf
    refine st_idxN (xs := [x, y]) (i := 0) (by simp) ?_
    conv => whnf
    refine st_idxN (xs := [x, y]) (i := 1) (by simp) ?_
    conv => whnf
    (focus ((repeat' first|exact trivial|exact rfl|exact .inl rfl|exact .inr ⟨rfl,rfl⟩|refine And.intro ?_ ?_);done))
   ·show Fn _ _ _ _ (if x.tag = 4 then _ else _)
    rw [if_neg hx]
    refine fn_prog tabOk mixed Tryz.f107 Tryz.func107 (by kernel_rfl) (by kernel_rfl) ?_
    conv => whnf
    refine ⟨rfl, cmp_false (fun h => h rfl) ?_⟩
    conv => whnf
    refine st_idxN (xs := [x, y]) (i := 0) (by simp) ?_
    conv => whnf
    refine ⟨rfl, cmp_true hx ?_⟩
    conv => whnf
    refine ⟨some [0, 1, 5, 1002, 3, 4, 6, 7], by kernel_rfl, ?_⟩; conv => whnf
    (focus ((repeat' first|exact trivial|exact rfl|exact .inl rfl|exact .inr ⟨rfl,rfl⟩|refine And.intro ?_ ?_);done))
 ·have he : twoT n = .tup [.v (.str (bt' [])), .v (.agg (cM nd0)), .v (bErr n.tag)] := by
   unfold twoT
   split
   ·rename_i x y hxy
    rw [hxy] at hl
    exact absurd rfl hl
   ·rfl
  rw [he]
  refine fn_prog tabOk mixed Tryz.f107 Tryz.func107 (by kernel_rfl) (by kernel_rfl) ?_
  conv => whnf
  refine ⟨rfl, cmp_true (by rw [List.length_map]; omega) ?_⟩
  conv => whnf
  refine ⟨some [0, 1, 5, 1002, 3, 4, 6, 7], by kernel_rfl, ?_⟩; conv => whnf
  (focus ((repeat' first|exact trivial|exact rfl|exact .inl rfl|exact .inr ⟨rfl,rfl⟩|refine And.intro ?_ ?_);done))
abbrev Pc := ByteArray × List ByteArray × ByteArray
def putS (s : Pc) (x : Nd) : Pc := if x.tag = 128 then (x.data, s.2.1, s.2.2) else if x.tag = 129 then (s.1, s.2.1 ++ [x.data], s.2.2) else if x.tag = 130 then (s.1, s.2.1, x.data) else s
def putR (s : Pc) (x : Nd) : V := match putN s x with
 | some _ => .nili
 | none => bErr x.tag
theorem putN_S {s s' : Pc} {x : Nd} (h : putN s x = some s') : s' = putS s x := by
 unfold putN at h
 unfold putS
 split at h
 ·cases h
 ·split at h
  ·rename_i h1
   rw [if_pos h1]
   split at h
   ·cases h; rfl
   ·cases h
  ·rename_i h1
   rw [if_neg h1]
   split at h
   ·rename_i h2
    rw [if_pos h2]
    split at h
    ·cases h; rfl
    ·cases h
   ·rename_i h2
    rw [if_neg h2]
    split at h
    ·rename_i h3
     rw [if_pos h3]
     split at h
     ·cases h; rfl
     ·cases h
    ·cases h
def z3 : List T := [.v (.int .i64 0), .v (.str (bt' [])), .v .nils]
def z6 : List T := [.v (.int .i64 0), .v (.str (bt' [])), .v (.str (bt' [])), .v .nils, .v (.str (bt' [])), .v .nils]
def c8 (nm : ByteArray) (s : Pc) : List T := [.v (.int .i64 4), .v (.str nm), .v (.str s.1), .own 200 9 (s.2.1.map encS), .v (.str s.2.2), .v .nils]
theorem st_callJ {f : FuncId} {P : Program} {X : En} {n : Nat} {env : List (Nat × T)} {bs bs' : List (Nat × List T)} {lv lv' : List (Nat × Option Nat)} {as0 args : List T} {r : T} {K : T → St → Prop} (h : FnI P X f args bs lv r bs' lv') (hl : LeTs as0 args) {Z : Prop} (hK : frcAll (St.mk n (scrEnv scrO env) bs' lv') fun st' => K r st') :
  Z ∨ ∃ (args : List T) (r : T) (bs' : List (Nat × List T)) (lv' : List (Nat × Option Nat)), (Cn P X).inl f args bs lv r bs' lv' ∧ LeTs as0 args ∧ frcAll (St.mk n (scrEnv scrO env) bs' lv') fun st' => K r st' :=
 .inr ⟨args, r, bs', lv', h, hl, hK⟩
theorem sz_or (s : ByteArray) : (s = { data := #[] } ∧ s.size = 0) ∨ (¬ s = { data := #[] } ∧ ¬ s.size = 0) := by
 by_cases h : s.size = 0
 ·exact .inl ⟨Fi.size0.1 h, h⟩
 ·exact .inr ⟨fun e => h (Fi.size0.2 e), h⟩
theorem ls_or (a : List ByteArray) : (a = [] ∧ (((a.map encS).length : Nat) : Int) = 0) ∨ (¬ a = [] ∧ ¬ (((a.map encS).length : Nat) : Int) = 0) := by
 cases a with
 | nil => exact .inl ⟨rfl, rfl⟩
 | cons x r => exact .inr ⟨by simp, by simp; omega⟩
variable (nm v fi : ByteArray) (a : List ByteArray) (x : Nd)
set_option maxHeartbeats 16000000 in
theorem put_128 (h1 : x.tag = 128) : FnI Tryz.prog X 108 [.ptr 8 0, .v (.agg (cM x))] [(17, (cM x).map .v), (17, z3), (4, z6), (8, c8 nm (v, a, fi))] [(200, some 9)] (.v (putR (v, a, fi) x)) [(4, z6), (8, c8 nm (x.data, a, fi))] [(200, some 9)] := by
  rcases sz_or v with ⟨e1, q1⟩ | ⟨e1, q1⟩ <;> rcases ls_or a with ⟨e2, q2⟩ | ⟨e2, q2⟩ <;> rcases sz_or fi with ⟨e3, q3⟩ | ⟨e3, q3⟩ <;> rcases sz_or x.data with ⟨e4, q4⟩ | ⟨e4, q4⟩
  all_goals
    first
    | (rw [show putR (v, a, fi) x = .nili from by unfold putR putN; simp [h1, e2, q1, q3, q4]]
       refine fnI_prog tabOk mixed Tryz.f108 (upN 76) Tryz.func108 (by kernel_rfl) (by kernel_rfl) rfl ?_
       conv => whnf
       (repeat' (first | ((refine cmp_true (by assumption) ?_) <;> (conv => whnf)) | ((refine cmp_false (by assumption) ?_) <;> (conv => whnf)) | ((refine ⟨rfl, cmp_true (by assumption) ?_⟩) <;> (conv => whnf)) | ((refine ⟨rfl, cmp_false (by assumption) ?_⟩) <;> (conv => whnf)) | fail))
       (focus ((repeat' first|exact trivial|exact rfl|exact .inl rfl|exact .inr ⟨rfl,rfl⟩|refine And.intro ?_ ?_);done)))
    | (rw [show putR (v, a, fi) x = bErr x.tag from by unfold putR putN; simp [h1, e2, q1, q3, q4]]
       refine fnI_prog tabOk mixed Tryz.f108 (upN 76) Tryz.func108 (by kernel_rfl) (by kernel_rfl) rfl ?_
       conv => whnf
       (repeat' (first | ((refine cmp_true (by assumption) ?_) <;> (conv => whnf)) | ((refine cmp_false (by assumption) ?_) <;> (conv => whnf)) | ((refine ⟨rfl, cmp_true (by assumption) ?_⟩) <;> (conv => whnf)) | ((refine ⟨rfl, cmp_false (by assumption) ?_⟩) <;> (conv => whnf)) | fail))
       (focus ((repeat' first|exact trivial|exact rfl|exact .inl rfl|exact .inr ⟨rfl,rfl⟩|refine And.intro ?_ ?_);done)))
set_option maxHeartbeats 16000000 in
theorem put_129 (h1 : ¬ x.tag = 128) (h2 : x.tag = 129) (ha : a.length ≤ 100000000) : FnI Tryz.prog X 108 [.ptr 8 0, .v (.agg (cM x))] [(17, (cM x).map .v), (17, z3), (4, z6), (8, c8 nm (v, a, fi))] [(200, some 9)] (.v (putR (v, a, fi) x)) [(4, z6), (8, c8 nm (v, a ++ [x.data], fi))] [(200, some 9)] := by
  rcases sz_or fi with ⟨e3, q3⟩ | ⟨e3, q3⟩ <;> rcases sz_or x.data with ⟨e4, q4⟩ | ⟨e4, q4⟩
  all_goals
    first
    | (rw [show putR (v, a, fi) x = .nili from by unfold putR putN; simp [h2, q3, q4]]
       refine fnI_prog tabOk mixed Tryz.f108 (fun k => match Nat.beq k 200 with | true => 50 | false => 76 + k) Tryz.func108 (by kernel_rfl) (by kernel_rfl) rfl ?_
       conv => whnf
       (repeat' (first | ((refine cmp_true (by assumption) ?_) <;> (conv => whnf)) | ((refine cmp_false (by assumption) ?_) <;> (conv => whnf)) | ((refine ⟨rfl, cmp_true (by assumption) ?_⟩) <;> (conv => whnf)) | ((refine ⟨rfl, cmp_false (by assumption) ?_⟩) <;> (conv => whnf)) | fail))
       refine ⟨none, by kernel_rfl, ?_⟩; conv => whnf
       refine st_app (zs := (a ++ [x.data]).map encS) (by simp; omega) (by intro c hc; simp at hc; rw [hc]; rfl) (by rw [List.map_append]; rfl) ?_
       conv => whnf
       (repeat' (first | ((refine cmp_true (by assumption) ?_) <;> (conv => whnf)) | ((refine cmp_false (by assumption) ?_) <;> (conv => whnf)) | ((refine ⟨rfl, cmp_true (by assumption) ?_⟩) <;> (conv => whnf)) | ((refine ⟨rfl, cmp_false (by assumption) ?_⟩) <;> (conv => whnf)) | fail))
       (focus ((repeat' first|exact trivial|exact rfl|exact .inl rfl|exact .inr ⟨rfl,rfl⟩|refine And.intro ?_ ?_);done)))
    | (rw [show putR (v, a, fi) x = bErr x.tag from by unfold putR putN; simp [h2, q3, q4]]
       refine fnI_prog tabOk mixed Tryz.f108 (fun k => match Nat.beq k 200 with | true => 50 | false => 76 + k) Tryz.func108 (by kernel_rfl) (by kernel_rfl) rfl ?_
       conv => whnf
       (repeat' (first | ((refine cmp_true (by assumption) ?_) <;> (conv => whnf)) | ((refine cmp_false (by assumption) ?_) <;> (conv => whnf)) | ((refine ⟨rfl, cmp_true (by assumption) ?_⟩) <;> (conv => whnf)) | ((refine ⟨rfl, cmp_false (by assumption) ?_⟩) <;> (conv => whnf)) | fail))
       refine ⟨none, by kernel_rfl, ?_⟩; conv => whnf
       refine st_app (zs := (a ++ [x.data]).map encS) (by simp; omega) (by intro c hc; simp at hc; rw [hc]; rfl) (by rw [List.map_append]; rfl) ?_
       conv => whnf
       (repeat' (first | ((refine cmp_true (by assumption) ?_) <;> (conv => whnf)) | ((refine cmp_false (by assumption) ?_) <;> (conv => whnf)) | ((refine ⟨rfl, cmp_true (by assumption) ?_⟩) <;> (conv => whnf)) | ((refine ⟨rfl, cmp_false (by assumption) ?_⟩) <;> (conv => whnf)) | fail))
       (focus ((repeat' first|exact trivial|exact rfl|exact .inl rfl|exact .inr ⟨rfl,rfl⟩|refine And.intro ?_ ?_);done)))
set_option maxHeartbeats 16000000 in
theorem put_130 (h1 : ¬ x.tag = 128) (h2 : ¬ x.tag = 129) (h3 : x.tag = 130) : FnI Tryz.prog X 108 [.ptr 8 0, .v (.agg (cM x))] [(17, (cM x).map .v), (17, z3), (4, z6), (8, c8 nm (v, a, fi))] [(200, some 9)] (.v (putR (v, a, fi) x)) [(4, z6), (8, c8 nm (v, a, x.data))] [(200, some 9)] := by
  rcases sz_or fi with ⟨e3, q3⟩ | ⟨e3, q3⟩ <;> rcases sz_or x.data with ⟨e4, q4⟩ | ⟨e4, q4⟩
  all_goals
    first
    | (rw [show putR (v, a, fi) x = .nili from by unfold putR putN; simp [h3, q3, q4]]
       refine fnI_prog tabOk mixed Tryz.f108 (upN 76) Tryz.func108 (by kernel_rfl) (by kernel_rfl) rfl ?_
       conv => whnf
       (repeat' (first | ((refine cmp_true (by assumption) ?_) <;> (conv => whnf)) | ((refine cmp_false (by assumption) ?_) <;> (conv => whnf)) | ((refine ⟨rfl, cmp_true (by assumption) ?_⟩) <;> (conv => whnf)) | ((refine ⟨rfl, cmp_false (by assumption) ?_⟩) <;> (conv => whnf)) | fail))
       (focus ((repeat' first|exact trivial|exact rfl|exact .inl rfl|exact .inr ⟨rfl,rfl⟩|refine And.intro ?_ ?_);done)))
    | (rw [show putR (v, a, fi) x = bErr x.tag from by unfold putR putN; simp [h3, q3, q4]]
       refine fnI_prog tabOk mixed Tryz.f108 (upN 76) Tryz.func108 (by kernel_rfl) (by kernel_rfl) rfl ?_
       conv => whnf
       (repeat' (first | ((refine cmp_true (by assumption) ?_) <;> (conv => whnf)) | ((refine cmp_false (by assumption) ?_) <;> (conv => whnf)) | ((refine ⟨rfl, cmp_true (by assumption) ?_⟩) <;> (conv => whnf)) | ((refine ⟨rfl, cmp_false (by assumption) ?_⟩) <;> (conv => whnf)) | fail))
       (focus ((repeat' first|exact trivial|exact rfl|exact .inl rfl|exact .inr ⟨rfl,rfl⟩|refine And.intro ?_ ?_);done)))
set_option maxHeartbeats 16000000 in
theorem put_no (h1 : ¬ x.tag = 128) (h2 : ¬ x.tag = 129) (h3 : ¬ x.tag = 130) : FnI Tryz.prog X 108 [.ptr 8 0, .v (.agg (cM x))] [(17, (cM x).map .v), (17, z3), (4, z6), (8, c8 nm (v, a, fi))] [(200, some 9)] (.v (putR (v, a, fi) x)) [(4, z6), (8, c8 nm (v, a, fi))] [(200, some 9)] := by
  rcases sz_or x.data with ⟨e4, q4⟩ | ⟨e4, q4⟩
  all_goals
    first
    | (rw [show putR (v, a, fi) x = .nili from by unfold putR putN; simp [h1, h2, h3, q4]]
       refine fnI_prog tabOk mixed Tryz.f108 (upN 76) Tryz.func108 (by kernel_rfl) (by kernel_rfl) rfl ?_
       conv => whnf
       (repeat' (first | ((refine cmp_true (by assumption) ?_) <;> (conv => whnf)) | ((refine cmp_false (by assumption) ?_) <;> (conv => whnf)) | ((refine ⟨rfl, cmp_true (by assumption) ?_⟩) <;> (conv => whnf)) | ((refine ⟨rfl, cmp_false (by assumption) ?_⟩) <;> (conv => whnf)) | fail))
       (focus ((repeat' first|exact trivial|exact rfl|exact .inl rfl|exact .inr ⟨rfl,rfl⟩|refine And.intro ?_ ?_);done)))
    | (rw [show putR (v, a, fi) x = bErr x.tag from by unfold putR putN; simp [h1, h2, h3, q4]]
       refine fnI_prog tabOk mixed Tryz.f108 (upN 76) Tryz.func108 (by kernel_rfl) (by kernel_rfl) rfl ?_
       conv => whnf
       (repeat' (first | ((refine cmp_true (by assumption) ?_) <;> (conv => whnf)) | ((refine cmp_false (by assumption) ?_) <;> (conv => whnf)) | ((refine ⟨rfl, cmp_true (by assumption) ?_⟩) <;> (conv => whnf)) | ((refine ⟨rfl, cmp_false (by assumption) ?_⟩) <;> (conv => whnf)) | fail))
       (focus ((repeat' first|exact trivial|exact rfl|exact .inl rfl|exact .inr ⟨rfl,rfl⟩|refine And.intro ?_ ?_);done)))
theorem put_step (s : Pc) (ha : s.2.1.length ≤ 100000000) : FnI Tryz.prog X 108 [.ptr 8 0, .v (.agg (cM x))] [(17, (cM x).map .v), (17, z3), (4, z6), (8, c8 nm s)] [(200, some 9)] (.v (putR s x)) [(4, z6), (8, c8 nm (putS s x))] [(200, some 9)] := by
 obtain ⟨v, a, fi⟩ := s
 unfold putS
 by_cases h1 : x.tag = 128
 ·rw [if_pos h1]; exact put_128 nm v fi a x h1
 ·rw [if_neg h1]
  by_cases h2 : x.tag = 129
  ·rw [if_pos h2]; exact put_129 nm v fi a x h1 h2 ha
  ·rw [if_neg h2]
   by_cases h3 : x.tag = 130
   ·rw [if_pos h3]; exact put_130 nm v fi a x h1 h2 h3
   ·rw [if_neg h3]; exact put_no nm v fi a x h1 h2 h3
end Go.Proofs.YtiafggoaedifdaaGreatDoor.Fb
