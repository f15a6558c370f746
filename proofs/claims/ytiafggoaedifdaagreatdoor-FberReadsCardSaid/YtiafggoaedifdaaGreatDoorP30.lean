/- Several texts, one behind the other. fber, walked: filters of trees. Conditions: at most 10^8 in one. tlv, walked: a slice, backward; its elements as they lie. Conditions: at most 10^9 elements. tlv, walked: all trees in one, from the top, as an iterator. Conditions: at most 5 * 10^8 of them. tlv, walked: trees' bytes, which trees are right. Conditions: at most 9 * 10^8 in one. tlv, walked: trees read: heads. Conditions: texts of at most 10^8 bytes. -/
import Derived.Test.YtiafggoaedifdaaGreatDoorP29
import Derived.Test.YtiafggoaedifdaaGreatDoorP24
import Derived.Test.YtiafggoaedifdaaGreatDoorP21
import Derived.Test.YtiafggoaedifdaaGreatDoorP22
import Derived.Test.YtiafggoaedifdaaGreatDoorP27
/- fber, walked: filters of trees. Conditions: at most 10^8 in one. -/
namespace Go.Proofs.YtiafggoaedifdaaGreatDoor.Fb
open Go.RowKit Go.Shelf Go.Lib Fl Tl
open Fi (one_arg cG cF cFs cG_eq midF midFs encS f0)
set_option linter.unusedVariables false
variable {X : En}
theorem allL_get {α β : Type} {g : α → Option β} : ∀ {l : List α} {ys : List β}, allL g l = some ys → ∀ (i : Nat) (hi : i < l.length) (hy : i < ys.length), g l[i] = some ys[i]
 | [], ys, h, i, hi, hy => by simp at hi
 | x :: r, ys, h, i, hi, hy => by
  rw [allL] at h
  cases hx : g x with
  | none => rw [hx] at h; cases h
  | some y =>
   rw [hx] at h
   dsimp only at h
   cases hr : allL g r with
   | none => rw [hr] at h; cases h
   | some zs =>
    rw [hr] at h
    cases h
    cases i with
    | zero => exact hx
    | succ i => simpa using allL_get hr i (by simpa using hi) (by simpa using hy)
theorem allL_none {α β : Type} {g : α → Option β} : ∀ {l : List α}, allL g l = none → ∃ (j : Nat) (hj : j < l.length) (ys : List β), ys.length = j ∧ g l[j] = none ∧ ∀ (i : Nat) (hi : i < l.length) (hy : i < ys.length), g l[i] = some ys[i]
 | [], h => by cases h
 | x :: r, h => by
  rw [allL] at h
  cases hx : g x with
  | none => exact ⟨0, by simp, [], rfl, hx, fun i hi hy => by simp at hy⟩
  | some y =>
   rw [hx] at h
   dsimp only at h
   cases hr : allL g r with
   | some zs => rw [hr] at h; cases h
   | none =>
    obtain ⟨j, hj, ys, h1, h2, h3⟩ := allL_none hr
    refine ⟨j + 1, by simpa using hj, y :: ys, by simp [h1], by simpa using h2, fun i hi hy => ?_⟩
    cases i with
    | zero => exact hx
    | succ i => simpa using h3 i (by simpa using hi) (by simpa using hy)
def failP : Pc → List Nd → Int
 | _, [] => 0
 | s, x :: r => match putN s x with
  | some s' => failP s' r
  | none => x.tag
def RdOk (o : Option Flt) (r : T) : Prop := match o with
 | some f => r = .tup [.v (.agg (cG f)), .v .nili]
 | none => ∃ i : Int, r = .tup [.v (.agg (cG f0)), .v (bErr i)]
def s0 : Pc := (bt' [], [], bt' [])
theorem drop_cons {l : List Nd} {i : Nat} (h : i < l.length) : l.drop i = l[i] :: l.drop (i + 1) := List.drop_eq_getElem_cons h
theorem puts_step (s : Pc) (x : Nd) (r : List Nd) : putsN s (x :: r) = match putN s x with | some s' => putsN s' r | none => none := by
 rw [putsN]
 rfl
set_option maxHeartbeats 8000000 in
theorem subs_fn (n x y : Nd) (m : Nat) (hm : m ≤ 100) (hko : kindOf n.tag = some 4) (hk : n.kids = [x, y]) (hx : x.tag = 4) (hl : y.kids.length ≤ 100000000) : ∃ r, RdOk ((putsN s0 y.kids).map fun s => .mk 4 x.data s.1 s.2.1 s.2.2 []) r ∧ Fn Tryz.prog X 80 [.v (.agg (cM n)), .v (.int .i64 ((m + 1 : Nat) : Int))] r := by
 have hkg := kind_get n.tag
 rw [hko] at hkg
 have h2 := two_fn (X := X) n
 have ht : twoT n = .tup [.v (.str x.data), .v (.agg (cM y)), .v .nili] := by
  unfold twoT
  rw [hk]
  show (if x.tag = 4 then _ else _) = _
  rw [if_pos hx]
 rw [ht] at h2
 cases hp : putsN s0 y.kids with
 | some sf =>
  refine ⟨_, rfl, ?_⟩
  refine fn_prog (tab_elm tabOk) mixed Tryz.f80 Tryz.func80 (by kernel_rfl) (by kernel_rfl) ?_
  conv => whnf
  refine ⟨some [1, 2, 0, 3, 4, 5, 6, 7, 8], by kernel_rfl, ?_⟩; conv => whnf
  (refine st_call (kinds_fn (X := X)) ?_ rfl rfl ?_; (focus ((repeat' first|exact trivial|exact rfl|exact .inl rfl|exact .inr ⟨rfl,rfl⟩|refine And.intro ?_ ?_);done)); conv => whnf)
  refine ⟨_, hkg, ?_⟩
  conv => whnf
  refine ⟨rfl, cmp_false (by omega) ?_⟩
  conv => whnf
  (repeat' (first | ((refine ⟨rfl, cmp_false (by decide) ?_⟩) <;> (conv => whnf)) | fail))
  (refine st_call h2 ?_ rfl rfl ?_; (focus ((repeat' first|exact trivial|exact rfl|exact .inl rfl|exact .inr ⟨rfl,rfl⟩|refine And.intro ?_ ?_);done)); conv => whnf)
  (repeat' (first | ((refine ⟨rfl, cmp_false (by decide) ?_⟩) <;> (conv => whnf)) | fail))
  refine ⟨Nat × Pc, fun z => ⟨111, [(4, .ptr 4 0), (8, .ptr 8 0), (97, .v (.sl (y.kids.map cN))), (98, .v (.int .i64 ((y.kids.map cN).length : Nat))), (99, .v (.int .i64 (z.1 : Nat)))], [(4, z6), (8, c8 x.data z.2)], [(200, some 9)]⟩, fun z => z.1 ≤ y.kids.length ∧ z.2.2.1.length ≤ z.1 ∧ putsN z.2 (y.kids.drop z.1) = some sf, fun z => y.kids.length - z.1, ⟨(0, s0), [(200, none)], ⟨Nat.zero_le _, Nat.le_refl _, hp⟩, ?_⟩, fun z ⟨hz1, hz2, hz3⟩ => ?_⟩
  ·(focus ((repeat' first|exact trivial|exact rfl|exact .inl rfl|exact .inr ⟨rfl,rfl⟩|refine And.intro ?_ ?_);done))
  obtain ⟨i, s⟩ := z
  dsimp only at hz1 hz2 hz3
  conv => whnf
  refine ⟨rfl, cmp_split (fun h => ?_) (fun h => ?_)⟩
  ·try dsimp only at h
   rw [List.length_map] at h
   have hil : i < y.kids.length := by omega
   have hput := put_step (X := X) x.data y.kids[i] s (by omega)
   rw [drop_cons hil, puts_step] at hz3
   conv => whnf
   refine st_idxN hil ?_
   conv => whnf
   cases hq : putN s y.kids[i] with
   | none => rw [hq] at hz3; cases hz3
   | some s' =>
    rw [hq] at hz3
    dsimp only at hz3
    have hS := putN_S hq
    have hR : putR s y.kids[i] = .nili := by unfold putR; rw [hq]
    rw [hR] at hput
    rw [hS] at hz3
    refine st_callJ hput ?_ ?_
    ·(focus ((repeat' first|exact trivial|exact rfl|exact .inl rfl|exact .inr ⟨rfl,rfl⟩|refine And.intro ?_ ?_);done))
    conv => whnf
    refine ⟨rfl, st_succ (by omega) ?_⟩
    conv => whnf
    refine ⟨(i + 1, putS s y.kids[i]), [(200, some 200)], ⟨hil, ?_, hz3⟩, by dsimp only; omega, ?_⟩
    ·unfold putS
     repeat' split
     all_goals (simp; try omega)
    (focus ((repeat' first|exact trivial|exact rfl|exact .inl rfl|exact .inr ⟨rfl,rfl⟩|refine And.intro ?_ ?_);done))
  ·try dsimp only at h
   rw [List.length_map] at h
   rw [List.drop_eq_nil_of_le (by omega), putsN] at hz3
   cases hz3
   conv => whnf
   (focus ((repeat' first|exact trivial|exact rfl|exact .inl rfl|exact .inr ⟨rfl,rfl⟩|refine And.intro ?_ ?_);done))
 | none =>
  refine ⟨.tup [.v (.agg (cG f0)), .v (bErr (failP s0 y.kids))], ⟨_, rfl⟩, ?_⟩
  refine fn_prog (tab_elm tabOk) mixed Tryz.f80 Tryz.func80 (by kernel_rfl) (by kernel_rfl) ?_
  conv => whnf
  refine ⟨some [1, 2, 0, 3, 4, 5, 6, 7, 8], by kernel_rfl, ?_⟩; conv => whnf
  (refine st_call (kinds_fn (X := X)) ?_ rfl rfl ?_; (focus ((repeat' first|exact trivial|exact rfl|exact .inl rfl|exact .inr ⟨rfl,rfl⟩|refine And.intro ?_ ?_);done)); conv => whnf)
  refine ⟨_, hkg, ?_⟩
  conv => whnf
  refine ⟨rfl, cmp_false (by omega) ?_⟩
  conv => whnf
  (repeat' (first | ((refine ⟨rfl, cmp_false (by decide) ?_⟩) <;> (conv => whnf)) | fail))
  (refine st_call h2 ?_ rfl rfl ?_; (focus ((repeat' first|exact trivial|exact rfl|exact .inl rfl|exact .inr ⟨rfl,rfl⟩|refine And.intro ?_ ?_);done)); conv => whnf)
  (repeat' (first | ((refine ⟨rfl, cmp_false (by decide) ?_⟩) <;> (conv => whnf)) | fail))
  refine ⟨Nat × Pc, fun z => ⟨111, [(4, .ptr 4 0), (8, .ptr 8 0), (97, .v (.sl (y.kids.map cN))), (98, .v (.int .i64 ((y.kids.map cN).length : Nat))), (99, .v (.int .i64 (z.1 : Nat)))], [(4, z6), (8, c8 x.data z.2)], [(200, some 9)]⟩, fun z => z.1 ≤ y.kids.length ∧ z.2.2.1.length ≤ z.1 ∧ putsN z.2 (y.kids.drop z.1) = none ∧ failP z.2 (y.kids.drop z.1) = failP s0 y.kids, fun z => y.kids.length - z.1, ⟨(0, s0), [(200, none)], ⟨Nat.zero_le _, Nat.le_refl _, hp, rfl⟩, ?_⟩, fun z ⟨hz1, hz2, hz3, hz4⟩ => ?_⟩
  ·(focus ((repeat' first|exact trivial|exact rfl|exact .inl rfl|exact .inr ⟨rfl,rfl⟩|refine And.intro ?_ ?_);done))
  obtain ⟨i, s⟩ := z
  dsimp only at hz1 hz2 hz3 hz4
  conv => whnf
  refine ⟨rfl, cmp_split (fun h => ?_) (fun h => ?_)⟩
  ·try dsimp only at h
   rw [List.length_map] at h
   have hil : i < y.kids.length := by omega
   have hput := put_step (X := X) x.data y.kids[i] s (by omega)
   rw [drop_cons hil, puts_step] at hz3
   rw [drop_cons hil, failP] at hz4
   conv => whnf
   refine st_idxN hil ?_
   conv => whnf
   cases hq : putN s y.kids[i] with
   | none =>
    rw [hq] at hz4
    dsimp only at hz4
    have hR : putR s y.kids[i] = bErr (failP s0 y.kids) := by unfold putR; rw [hq, ← hz4]
    rw [hR] at hput
    refine st_callJ hput ?_ ?_
    ·(focus ((repeat' first|exact trivial|exact rfl|exact .inl rfl|exact .inr ⟨rfl,rfl⟩|refine And.intro ?_ ?_);done))
    conv => whnf
    (focus ((repeat' first|exact trivial|exact rfl|exact .inl rfl|exact .inr ⟨rfl,rfl⟩|refine And.intro ?_ ?_);done))
   | some s' =>
    rw [hq] at hz3 hz4
    dsimp only at hz3 hz4
    have hS := putN_S hq
    have hR : putR s y.kids[i] = .nili := by unfold putR; rw [hq]
    rw [hR] at hput
    rw [hS] at hz3 hz4
    refine st_callJ hput ?_ ?_
    ·(focus ((repeat' first|exact trivial|exact rfl|exact .inl rfl|exact .inr ⟨rfl,rfl⟩|refine And.intro ?_ ?_);done))
    conv => whnf
    refine ⟨rfl, st_succ (by omega) ?_⟩
    conv => whnf
    refine ⟨(i + 1, putS s y.kids[i]), [(200, some 200)], ⟨hil, ?_, hz3, hz4⟩, by dsimp only; omega, ?_⟩
    ·unfold putS
     repeat' split
     all_goals (simp; try omega)
    (focus ((repeat' first|exact trivial|exact rfl|exact .inl rfl|exact .inr ⟨rfl,rfl⟩|refine And.intro ?_ ?_);done))
  ·try dsimp only at h
   rw [List.length_map] at h
   rw [List.drop_eq_nil_of_le (by omega), putsN] at hz3
   cases hz3
end Go.Proofs.YtiafggoaedifdaaGreatDoor.Fb
/- tlv, walked: a slice, backward; its elements as they lie. Conditions: at most 10^9 elements. -/
namespace Go.Proofs.YtiafggoaedifdaaGreatDoor.Tl
open Go.RowKit Go.Shelf Go.Lib
open Fl (bl bt' bl_bt bl_of size_bl)
set_option linter.unusedVariables false
variable {X : En}
structure V3 where
 a : Value
 b : Value
 c : Value
def e3 (u : V3) : List V := [.raw u.a, .raw u.b, .raw u.c]
def l3 (u : V3) : List Value := [u.a, u.b, u.c]
theorem backward_fn (xs : List (List V)) : Fn Tryz.prog X 115 [.v (.sl xs)] (.fn 134 [.ro [.sl xs]]) := by
 refine fnP_prog tabOk mixed Tryz.f115 Tryz.func115 (by kernel_rfl) (by kernel_rfl) (by kernel_rfl) ?_
 conv => whnf
 exact ⟨rfl, ⟨_, rfl, rfl⟩, trivial⟩
def bwY (l : List V3) : List (List V) := l.zipIdx.reverse.map fun q => [.int .i64 (q.2 : Nat), .agg (e3 q.1)]
theorem bwY_get (l : List V3) (j : Nat) (h : 1 ≤ j) (hj : j ≤ l.length) : (bwY l)[l.length - j]? = some [.int .i64 ((j - 1 : Nat) : Int), .agg (e3 (l[j - 1]'(by omega)))] := by
 unfold bwY
 rw [List.getElem?_map, List.getElem?_reverse (by rw [List.length_zipIdx]; omega), List.length_zipIdx, List.getElem?_zipIdx, show l.length - 1 - (l.length - j) = j - 1 by omega, List.getElem?_eq_getElem (by omega)]
 simp
theorem backward_it (l : List V3) (hl : l.length ≤ 1000000000) : It Tryz.prog X 134 [.ro [.sl (l.map e3)]] (bwY l) := by
 refine it_prog tabOk mixed Tryz.f134 Tryz.func134 (by kernel_rfl) (by kernel_rfl) (by kernel_rfl) fun k cvs hE hL0 hcv => ⟨_, hcv, rfl, by kernel_rfl, ?_⟩
 have hyl : (bwY l).length = l.length := by unfold bwY; simp
 conv => whnf
 refine ⟨rfl, (l.length : Int) - 1, by rw [List.length_map]; exact wrap64 (by omega) (by omega), ?_⟩
 conv => whnf
 refine ⟨[], trivial, rfl, Nat, fun j => ⟨19, [(0, .v (.raw (.func (.yield k.l0) #[] #[]))), (1, .ro [.sl (l.map e3)]), (3, .v (.int .i64 (((j : Nat) : Int) - 1)))], [], []⟩, fun j => some (l.length - j), fun j => j ≤ l.length, fun j => j, ⟨l.length, [], Nat.le_refl _, by simp, ?_⟩, fun j hj => ?_⟩
 ·exact ⟨rfl, rfl, ⟨.inl rfl, rfl, .inl rfl, trivial⟩, trivial, trivial⟩
 conv => whnf
 refine ⟨rfl, cmp_split (fun h => ?_) (fun h => ?_)⟩
 ·have hj1 : 1 ≤ j := by omega
  conv => whnf
  refine ⟨e3 (l[j - 1]'(by omega)), by omega, by rw [show ((j : Int) - 1).toNat = j - 1 by omega, List.getElem?_map, List.getElem?_eq_getElem (by omega)]; rfl, rfl, ?_⟩
  conv => whnf
  refine ⟨11, _, _, [], ⟨19, [(0, .v (.raw (.func (.yield k.l0) #[] #[]))), (1, .ro [.sl (l.map e3)]), (3, .v (.int .i64 (((j : Nat) : Int) - 1)))], [], []⟩, rfl, rfl, rfl, ?_, .inl ⟨rfl, .inl rfl⟩, ⟨rfl, ⟨.inl ⟨rfl, .inl rfl⟩, .inr rfl, .inl ⟨rfl, .inl rfl⟩, trivial⟩, trivial, trivial, rfl⟩, ?_, ?_⟩
  ·rw [bwY_get l j hj1 hj, show (((j - 1 : Nat) : Int)) = (j : Int) - 1 by omega]; rfl
  ·conv => whnf
   refine ⟨rfl, ((j - 1 : Nat) : Int) - 1, (by rw [show ((j : Int) - 1 - 1) = ((j - 1 : Nat) : Int) - 1 by omega]; exact wrap64 (by omega) (by omega)), ?_⟩
   conv => whnf
   refine ⟨j - 1, [], by dsimp only; omega, by dsimp only; congr 1; omega, by dsimp only; omega, ?_⟩
   exact ⟨rfl, rfl, ⟨.inl rfl, rfl, .inl rfl, trivial⟩, trivial, trivial⟩
  ·conv => whnf
   exact .inr rfl
 ·conv => whnf
  have : j = 0 := by omega
  subst this
  exact .inl (by rw [hyl]; rfl)
end Go.Proofs.YtiafggoaedifdaaGreatDoor.Tl
/- tlv, walked: all trees in one, from the top, as an iterator. Conditions: at most 5 * 10^8 of them. -/
namespace Go.Proofs.YtiafggoaedifdaaGreatDoor.Tl
open Go.RowKit Go.Shelf Go.Lib
open Fl (bl bt' bl_bt bl_of size_bl)
open Fi (one_arg)
set_option linter.unusedVariables false
variable {X : En}
structure El where
 d : Nat
 x : Nd
 u : V3
def encR (q : El) : List V := e3 q.u
def encD (q : El) : List V := [.int .i64 (q.d : Nat)]
theorem cells3 {w : World} {L : Lv} {b o : Nat} {x : Nd} (h : RepC w L b o (cM x)) : ∃ u : V3, RepL w L (cM x) (l3 u) ∧ RepC w L b o (e3 u) := by
 obtain ⟨⟨u0, a0, b0, c0, d0⟩, ⟨u1, a1, b1, c1, d1⟩, ⟨u2, a2, b2, c2, d2⟩, _⟩ := h
 exact ⟨⟨u0, u1, u2⟩, ⟨u0, _, rfl, c0, d0, u1, _, rfl, c1, d1, u2, _, rfl, c2, d2, rfl⟩,
  ⟨u0, a0, b0, Rep.one_val c0 d0, rfl⟩, ⟨u1, a1, b1, Rep.one_val c1 d1, rfl⟩, ⟨u2, a2, b2, Rep.one_val c2 d2, rfl⟩, trivial⟩
theorem kidsE {w : World} {L : Lv} {b e : Nat} (d : Nat) : ∀ (l : List Nd) (o : Nat), RepE w L b e o (l.map cN) → ∃ ks : List El, ks.map El.x = l ∧ (∀ q ∈ ks, q.d = d ∧ RepL w L (cM q.x) (l3 q.u)) ∧ RepE w L b e o ((ks.map El.u).map e3)
 | [], o, h => ⟨[], rfl, fun q hq => (by cases hq), trivial⟩
 | x :: r, o, ⟨h1, h2, h3⟩ => by
  obtain ⟨ks, k1, k2, k3⟩ := kidsE d r (o + e) h3
  rw [cM_eq] at h1 h2
  obtain ⟨u, r1, r2⟩ := cells3 h2
  refine ⟨⟨d, x, u⟩ :: ks, by rw [List.map_cons, k1], fun q hq => ?_, ⟨h1, r2, k3⟩⟩
  rcases List.mem_cons.1 hq with rfl | hq
  ·exact ⟨rfl, r1⟩
  ·exact k2 q hq
theorem kids_of {w : World} {L : Lv} (d : Nat) {l : List Nd} {v : Value} (h : Rep w L (.sl (l.map cN)) v) : ∃ ks : List El, ks.map El.x = l ∧ (∀ q ∈ ks, q.d = d ∧ RepL w L (cM q.x) (l3 q.u)) ∧ Rep w L (.sl ((ks.map El.u).map e3)) v := by
 obtain ⟨A, c, hv, hle, hne⟩ := h
 by_cases hl : l = []
 ·subst hl
  exact ⟨[], rfl, fun q hq => (by cases hq), A, c, hv, hle, fun hn => absurd rfl hn⟩
 ·obtain ⟨b, o, e, hA, hr⟩ := hne (by simpa using hl)
  obtain ⟨ks, k1, k2, k3⟩ := kidsE d l o hr
  have hlen : ((ks.map El.u).map e3).length = (l.map cN).length := by rw [← k1]; simp
  exact ⟨ks, k1, k2, A, c, by rw [hlen]; exact hv, by rw [hlen]; exact hle, fun _ => ⟨b, o, e, hA, k3⟩⟩
theorem st_lastR {s0 : List El} {q : El} {K : List V → Prop} (hK : K (encR q)) : ∃ c, (0 : Int) ≤ (s0.length : Nat) ∧ ((s0 ++ [q]).map encR)[((s0.length : Nat) : Int).toNat]? = some c ∧ c.length = 3 ∧ K c :=
 ⟨encR q, by omega, by rw [Int.toNat_natCast, List.getElem?_map, List.getElem?_append_right (Nat.le_refl _), Nat.sub_self]; rfl, rfl, hK⟩
theorem st_lastD {s0 : List El} {q : El} {K : List V → Prop} (hK : K (encD q)) : ∃ c, (0 : Int) ≤ (s0.length : Nat) ∧ ((s0 ++ [q]).map encD)[((s0.length : Nat) : Int).toNat]? = some c ∧ c.length = 1 ∧ K c :=
 ⟨encD q, by omega, by rw [Int.toNat_natCast, List.getElem?_map, List.getElem?_append_right (Nat.le_refl _), Nat.sub_self]; rfl, rfl, hK⟩
theorem st_appR {s : List El} (q : El) {K : List (List V) → Prop} (h : s.length + 1 ≤ 1000000000) (hK : K ((s ++ [q]).map encR)) : (s.map encR).length + [encR q].length ≤ 1000000000 ∧ (∀ c ∈ [encR q], c.length = 3) ∧ ∃ zs, s.map encR ++ [encR q] = zs ∧ K zs :=
 st_app (by simpa using h) (fun c hc => by rw [List.mem_singleton.1 hc]; rfl) (by rw [List.map_append]; rfl) hK
theorem st_appD {s : List El} (q : El) {K : List (List V) → Prop} (h : s.length + 1 ≤ 1000000000) (hK : K ((s ++ [q]).map encD)) : (s.map encD).length + [encD q].length ≤ 1000000000 ∧ (∀ c ∈ [encD q], c.length = 1) ∧ ∃ zs, s.map encD ++ [encD q] = zs ∧ K zs :=
 st_app (by simpa using h) (fun c hc => by rw [List.mem_singleton.1 hc]; rfl) (by rw [List.map_append]; rfl) hK
def flatS (s : List El) : List (Nat × Nd) := s.reverse.flatMap fun q => preN q.d q.x
theorem preNs_map : ∀ (l : List Nd) (d : Nat), preNs d l = l.flatMap (preN d)
 | [], _ => rfl
 | x :: r, d => by rw [preNs, List.flatMap_cons, preNs_map r d]
theorem preN_cons : ∀ (d : Nat) (x : Nd), preN d x = (d, x) :: preNs (d + 1) x.kids
 | d, .mk t x k => rfl
theorem flatS_snoc (s : List El) (q : El) : flatS (s ++ [q]) = (q.d, q.x) :: (preNs (q.d + 1) q.x.kids ++ flatS s) := by
 unfold flatS
 rw [List.reverse_append, List.reverse_singleton, List.singleton_append, List.flatMap_cons, preN_cons]
 rfl
theorem flatS_kids (s ks : List El) (d : Nat) (l : List Nd) (h1 : ks.map El.x = l) (h2 : ∀ q ∈ ks, q.d = d) : flatS (s ++ ks.reverse) = preNs d l ++ flatS s := by
 unfold flatS
 rw [List.reverse_append, List.reverse_reverse, List.flatMap_append, preNs_map, ← h1]
 congr 1
 clear h1
 induction ks with
 | nil => rfl
 | cons q r ih =>
  rw [List.flatMap_cons, List.map_cons, List.flatMap_cons, ih (fun q' hq => h2 q' (by simp [hq])), h2 q (by simp)]
theorem flatS_len : ∀ s : List El, s.length ≤ (flatS s).length := fun s => by
 have : ∀ t : List El, t.length ≤ (t.flatMap fun q => preN q.d q.x).length := by
  intro t
  induction t with
  | nil => exact Nat.le_refl _
  | cons q r ih => rw [List.flatMap_cons, List.length_append, preN_cons, List.length_cons, List.length_cons]; omega
 unfold flatS
 have h := this s.reverse
 rwa [List.length_reverse] at h
theorem pre_le : ∀ (ks : List El) (d : Nat), ∀ q ∈ ks, (preN d q.x).length ≤ ((ks.map El.x).flatMap (preN d)).length
 | [], _, q, hq => by cases hq
 | k :: r, d, q, hq => by
  rw [List.map_cons, List.flatMap_cons, List.length_append]
  rcases List.mem_cons.1 hq with rfl | hq
  ·omega
  ·have := pre_le r d q hq; omega
theorem bwK_get (ks : List El) (j : Nat) (hj : j < ks.length) : (bwY (ks.map El.u))[j]? = some [.int .i64 ((ks.length - 1 - j : Nat) : Int), .agg (e3 (ks.reverse[j]'(by simpa using hj)).u)] := by
 unfold bwY
 rw [List.getElem?_map, List.getElem?_reverse (by rw [List.length_zipIdx, List.length_map]; exact hj), List.length_zipIdx, List.length_map, List.getElem?_zipIdx, List.getElem?_map, List.getElem?_eq_getElem (show ks.length - 1 - j < ks.length by omega), List.getElem_reverse]
 simp
def preY (f : Nd) : List (List V) := (preN 1 f).map fun q => [.int .i64 (q.1 : Nat), .agg (cM q.2)]
theorem known_args {k : Ky} {d : Nat} {x : Nd} {u : V3} (h : RepL k.w0 k.L0 (cM x) (l3 u)) (us : List Value) (hu : RepW k.w0 k.L0 [.int .i64 (d : Nat), .agg (e3 u)] us) : RepW k.w0 k.L0 [.int .i64 (d : Nat), .agg (cM x)] us := by
 obtain ⟨v1, us1, rfl, h1, v2, us2, rfl, ⟨cs, rfl, hc⟩, h3⟩ := hu
 obtain ⟨a0, t0, e0, _, r0, a1, t1, rfl, _, r1, a2, t2, rfl, _, r2, r6⟩ := hc
 rw [show a0 = u.a from r0, show a1 = u.b from r1, show a2 = u.c from r2, show t2 = [] from r6] at e0
 exact ⟨_, _, rfl, h1, _, _, rfl, ⟨cs, rfl, by rw [e0]; exact h⟩, h3⟩
set_option maxHeartbeats 4000000 in
theorem trees_it (f : Nd) (hN : (preN 1 f).length ≤ 900000000) : It Tryz.prog X 114 [.ro (cM f)] (preY f) := by
 refine it_prog (Fi.tab_sub tabOk) mixed Tryz.f114 Tryz.func114 (by kernel_rfl) (by kernel_rfl) (by kernel_rfl) fun k cvs hE hL0 hcv => ?_
 obtain ⟨v0, rfl, b, o, rfl, hcell⟩ := one_arg hcv
 obtain ⟨u, hu1, hu2⟩ := cells3 hcell
 refine ⟨[.ro (e3 u)], ⟨_, _, rfl, ⟨b, o, rfl, hu2⟩, rfl⟩, rfl, by kernel_rfl, ?_⟩
 conv => whnf
 refine ⟨[], trivial, rfl, Nat × List El, fun z => ⟨52, [(0, .v (.raw (.func (.yield k.l0) #[] #[]))), (3, .ptr 3 0), (4, .ptr 4 0)], [(3, [.own 11 46 (z.2.map encR)]), (4, [.own 12 3 (z.2.map encD)])], [(11, some 46), (12, some 3)]⟩, fun z => some z.1, fun z => z.1 ≤ (preN 1 f).length ∧ (preN 1 f).drop z.1 = flatS z.2 ∧ ∀ q ∈ z.2, q.d + (preN q.d q.x).length ≤ 1000000000 ∧ RepL k.w0 k.L0 (cM q.x) (l3 q.u), fun z => (preN 1 f).length - z.1, ⟨(0, [⟨1, f, u⟩]), [(11, some 11), (12, some 12)], ⟨Nat.zero_le _, by rw [List.drop_zero]; simp [flatS], fun q hq => by rw [List.mem_singleton.1 hq]; exact ⟨by dsimp only; omega, hu1⟩⟩, rfl, ?_⟩, fun z ⟨hz1, hz2, hz3⟩ => ?_⟩
 ·(focus ((repeat' first|exact trivial|exact rfl|exact .inl rfl|exact .inr ⟨rfl,rfl⟩|refine And.intro ?_ ?_);done))
 obtain ⟨i, s⟩ := z
 dsimp only at hz1 hz2 hz3
 have hsl : s.length ≤ 900000000 := by
  have h1 := flatS_len s
  rw [← hz2, List.length_drop] at h1
  omega
 conv => whnf
 refine ⟨rfl, cmp_split (fun h => ?_) (fun h => ?_)⟩
 rotate_left
 ·conv => whnf
  have hs0 : s = [] := by
   cases s with
   | nil => rfl
   | cons a r => exact absurd h (by simp)
  subst hs0
  have hd0 : (preN 1 f).drop i = [] := hz2
  have : (preN 1 f).length ≤ i := List.drop_eq_nil_iff.1 hd0
  exact .inl (by rw [show (preY f).length = i from by unfold preY; rw [List.length_map]; omega])
 rcases List.eq_nil_or_concat s with rfl | ⟨s0, q, hsq⟩
 ·exact absurd h (by simp)
 rw [List.concat_eq_append] at hsq
 subst hsq
 rw [flatS_snoc] at hz2
 obtain ⟨hqd, hqu⟩ := hz3 q (by simp)
 rw [preN_cons, List.length_cons] at hqd
 have hlast : ((s0 ++ [q]).map encR).length - 1 = s0.length := by simp
 have hkids : Rep k.w0 k.L0 (.sl (q.x.kids.map cN)) q.u.c := by
  obtain ⟨a0, t0, e0, _, r0, a1, t1, rfl, _, r1, a2, t2, rfl, _, r2, r6⟩ := hqu
  unfold l3 at e0
  injection e0 with _ e0
  injection e0 with _ e0
  injection e0 with e0 _
  rw [e0]; exact r2
 obtain ⟨ks, hk1, hk2, hk3⟩ := kids_of (q.d + 1) hkids
 have hil : i < (preN 1 f).length := by
  rcases Nat.lt_or_ge i (preN 1 f).length with h1 | h1
  ·exact h1
  ·rw [List.drop_eq_nil_of_le h1] at hz2; cases hz2
 have hyi : (preY f)[i]? = some [.int .i64 (q.d : Nat), .agg (cM q.x)] := by
  unfold preY
  rw [List.getElem?_map, ← List.head?_drop, hz2]
  rfl
 have hdrop : (preN 1 f).drop (i + 1) = flatS (s0 ++ ks.reverse) := by
  rw [flatS_kids s0 ks (q.d + 1) q.x.kids hk1 (fun q' hq' => (hk2 q' hq').1), ← List.drop_drop, hz2]
  rfl
 have hkn : ks.length ≤ 900000000 ∧ s0.length + ks.length ≤ 900000000 := by
  have h1 := flatS_len (s0 ++ ks.reverse)
  rw [← hdrop, List.length_drop, List.length_append, List.length_reverse] at h1
  omega
 conv => whnf
 refine st_minus ((s0 ++ [q]).map encR).length 1 (by simp) (by simp; omega) ?_
 rw [hlast]
 conv => whnf
 (refine ⟨some [9999], by kernel_rfl, ⟨(.one 0 (.one 1 (.one 2 (.one 3 (.one 5 (.or (.or (.one 4 (.one 6 (.one 3007 (.or (.one 8 (.one 9 (.one 10 (.one 11 .nil)))) (.one 9 (.one 8 (.one 10 (.one 11 .nil)))))))) (.one 8 (.or (.one 4 (.one 6 (.one 3007 (.one 9 (.one 10 (.one 11 .nil)))))) (.one 9 (.or (.one 4 (.one 6 (.one 3007 (.one 10 (.one 11 .nil))))) (.one 10 (.one 4 (.one 6 (.one 7 (.one 11 .nil)))))))))) (.one 9 (.or (.one 4 (.one 6 (.one 3007 (.one 8 (.one 10 (.one 11 .nil)))))) (.one 8 (.or (.one 4 (.one 6 (.one 3007 (.one 10 (.one 11 .nil))))) (.one 10 (.one 4 (.one 6 (.one 7 (.one 11 .nil))))))))))))))), by kernel_rfl, ?_, ?_, ?_⟩⟩; rotate_left; (focus ((conv => whnf); (repeat' (first | ((refine st_lastR ?_) <;> (conv => whnf)) | ((refine st_lastD ?_) <;> (conv => whnf)) | ((refine And.intro ?_ ?_) <;> (conv => whnf)) | (exact St.le_refl _) | (refine ⟨rfl, ?_, ?_, ?_⟩ <;> (repeat' (first | exact trivial | (refine ⟨rfl, ?_⟩))); done) | fail))))); conv => whnf
 refine ⟨some [0, 1, 2, 4, 1003, 5, 6, 7], by kernel_rfl, ?_⟩; conv => whnf
 refine ⟨s0.length, rfl, by simp, ?_⟩
 conv => whnf
 refine ⟨s0.length, rfl, by simp, ?_⟩
 conv => whnf
 refine ⟨33, _, _, [(11, (46, s0.length, (s0 ++ [q]).map encR)), (12, (3, s0.length, (s0 ++ [q]).map encD))], ⟨52, [(0, .v (.raw (.func (.yield k.l0) #[] #[]))), (3, .ptr 3 0), (4, .ptr 4 0), (6, .ptr 6 0), (7, .ptr 7 0)], [(3, [.own 11 46 (s0.map encR)]), (4, [.own 12 3 (s0.map encD)]), (6, [.v (.raw q.u.a), .v (.raw q.u.b), .v (.sl ((ks.map El.u).map e3))]), (7, [.v (.int .i64 (q.d : Nat))])], [(11, some 46), (12, some 3)]⟩, rfl, rfl, rfl, hyi, .inr ⟨rfl, known_args hqu⟩, ⟨rfl, ?_, ?_, ?_, rfl⟩, ?_, ?_⟩
 ·exact ⟨.inl ⟨rfl, .inl rfl⟩, .inl ⟨rfl, rfl⟩, .inl ⟨rfl, rfl⟩, .inl ⟨rfl, rfl⟩, .inl ⟨rfl, rfl⟩, trivial⟩
 ·refine ⟨⟨_, rfl, ⟨rfl, _, rfl, by simp⟩, trivial⟩, ⟨_, rfl, ⟨rfl, _, rfl, by simp⟩, trivial⟩, ⟨_, rfl, ⟨rfl, .inl rfl⟩, ⟨rfl, .inl rfl⟩, ⟨rfl, .inr fun v hv => ?_⟩, trivial⟩, ⟨_, rfl, ⟨rfl, .inl rfl⟩, trivial⟩, trivial⟩
  rw [show v = q.u.c from hv]; exact hk3
 ·refine ⟨⟨rfl, ⟨27, rfl⟩, by simp, fun c hc => ?_⟩, ⟨rfl, ⟨30, rfl⟩, by simp, fun c hc => ?_⟩, trivial⟩
  ·obtain ⟨z, _, rfl⟩ := List.mem_map.1 hc; rfl
  ·obtain ⟨z, _, rfl⟩ := List.mem_map.1 hc; rfl
 rotate_left
 ·conv => whnf
  exact .inr rfl
 conv => whnf
 refine st_call (backward_fn ((ks.map El.u).map e3)) ⟨.inl rfl, trivial⟩ rfl rfl ?_
 conv => whnf
 have hby : (bwY (ks.map El.u)).length = ks.length := by unfold bwY; simp
 refine ⟨_, _, fun j => ⟨52, [(0, .v (.raw (.func (.yield k.l0) #[] #[]))), (3, .ptr 3 0), (4, .ptr 4 0), (7, .ptr 7 0)], [(3, [.own 11 46 ((s0 ++ ks.reverse.take j).map encR)]), (4, [.own 12 3 ((s0 ++ ks.reverse.take j).map encD)]), (7, [.v (.int .i64 (q.d : Nat))])], [(11, some 46), (12, some 3)]⟩, fun j => j ≤ ks.length, backward_it (ks.map El.u) (by simp; omega), ⟨rfl, trivial⟩, rfl, ⟨Nat.zero_le _, [(11, some 11), (12, some 12)], ?_⟩, fun j => rfl, (show ∀ p ∈ [41, 42], p < 52 by decide), fun j v hv hj => ?_, fun hj => ?_⟩
 ·dsimp only
  rw [List.take_zero, List.append_nil]
  (focus ((repeat' first|exact trivial|exact rfl|exact .inl rfl|exact .inr ⟨rfl,rfl⟩|refine And.intro ?_ ?_);done))
 ·have hjl : j < ks.length := by
   have := (List.getElem?_eq_some_iff.1 hv).1
   omega
  have hrl : j < ks.reverse.length := by rw [List.length_reverse]; exact hjl
  have hy := bwK_get ks j hjl
  rw [hv] at hy
  injection hy with hy
  subst hy
  have hmem : ks.reverse[j]'hrl ∈ ks := List.mem_reverse.1 (List.getElem_mem hrl)
  obtain ⟨hd1, hd2⟩ := hk2 _ hmem
  have htk : s0 ++ ks.reverse.take j ++ [ks.reverse[j]'hrl] = s0 ++ ks.reverse.take (j + 1) := by
   rw [List.append_assoc, List.take_succ_eq_append_getElem hrl]
  generalize ks.reverse[j]'hrl = r at *
  refine ⟨rfl, ?_⟩
  conv => whnf
  have hln : (s0 ++ ks.reverse.take j).length + 1 ≤ 1000000000 := by
   rw [List.length_append, List.length_take]; omega
  have hrd : (r.d : Int) = ((q.d + 1 : Nat) : Int) := by rw [hd1]
  (refine ⟨some [9999], by kernel_rfl, ⟨(.one 0 (.one 1 (.one 1004 (.one 1005 (.one 6 (.or (.one 2 (.or (.one 3 (.one 7 (.one 8 (.one 9 (.one 10 .nil))))) (.one 7 (.one 3 (.one 8 (.one 9 (.one 10 .nil))))))) (.one 7 (.one 2 (.one 3 (.one 8 (.one 9 (.one 10 .nil)))))))))))), by kernel_rfl, ?_, ?_, ?_⟩⟩; rotate_left; (focus ((conv => whnf); (repeat' (first | ((refine st_appR r hln ?_) <;> (conv => whnf)) | ((refine ⟨rfl, st_succ (by omega) ?_⟩) <;> (conv => whnf)) | (((show (List.map encD (s0 ++ List.take j ks.reverse)).length + [[V.int IntKind.i64 ((q.d + 1 : Nat) : Int)]].length ≤ 1000000000 ∧ _; rw [← hrd]; refine st_appD r hln ?_)) <;> (conv => whnf)) | ((refine And.intro ?_ ?_) <;> (conv => whnf)) | (exact St.le_refl _) | (refine ⟨rfl, ?_, ?_, ?_⟩ <;> (repeat' (first | exact trivial | (refine ⟨rfl, ?_⟩))); done) | fail))))); conv => whnf
  refine ⟨by dsimp only; omega, [(11, some 46), (12, some 51)], ?_⟩
  dsimp only
  rw [← htk]
  (focus ((repeat' first|exact trivial|exact rfl|exact .inl rfl|exact .inr ⟨rfl,rfl⟩|refine And.intro ?_ ?_);done))
 ·conv => whnf
  rw [hby]
  have htake : ks.reverse.take ks.length = ks.reverse := by rw [← List.length_reverse, List.take_length]
  refine ⟨(i + 1, s0 ++ ks.reverse), [(11, some 11), (12, some 12)], ⟨hil, hdrop, fun q' hq' => ?_⟩, rfl, by dsimp only; omega, ?_⟩
  ·rcases List.mem_append.1 hq' with hq' | hq'
   ·exact hz3 q' (by simp [hq'])
   ·obtain ⟨h1, h2⟩ := hk2 q' (List.mem_reverse.1 hq')
    refine ⟨?_, h2⟩
    have h3 : (preN q'.d q'.x).length ≤ (preNs (q.d + 1) q.x.kids).length := by
     rw [preNs_map, ← hk1, h1]
     exact pre_le ks (q.d + 1) q' (List.mem_reverse.1 hq')
    omega
  ·dsimp only
   rw [htake]
   (focus ((repeat' first|exact trivial|exact rfl|exact .inl rfl|exact .inr ⟨rfl,rfl⟩|refine And.intro ?_ ?_);done))
theorem trees_fn {X : En} (f : Nd) : Fn Tryz.prog X 84 [.v (.agg (cM f))] (.fn 114 [.ro (cM f)]) := by
 refine fnP_prog tabOk mixed Tryz.f84 Tryz.func84 (by kernel_rfl) (by kernel_rfl) (by kernel_rfl) ?_
 conv => whnf
 exact ⟨rfl, ⟨_, rfl, rfl⟩, trivial⟩
theorem pre_get (f : Nd) {j : Nat} {v : List V} (h : (preY f)[j]? = some v) : ∃ hj : j < (preN 1 f).length, v = [.int .i64 (((preN 1 f)[j]).1 : Nat), .agg (cM ((preN 1 f)[j]).2)] := by
 unfold preY at h
 rw [List.getElem?_map] at h
 obtain ⟨q, hq, rfl⟩ := Option.map_eq_some_iff.1 h
 obtain ⟨hj, rfl⟩ := List.getElem?_eq_some_iff.1 hq
 exact ⟨hj, rfl⟩
end Go.Proofs.YtiafggoaedifdaaGreatDoor.Tl
/- tlv, walked: trees' bytes, which trees are right. Conditions: at most 9 * 10^8 in one. -/
namespace Go.Proofs.YtiafggoaedifdaaGreatDoor.Tl
open Go.RowKit Go.Shelf Go.Lib
open Fl (bl bt' bl_bt bl_of size_bl)
open Fi (encS)
set_option linter.unusedVariables false
variable (p : Nat → Addr)
theorem size_bt (l : List UInt8) : (bt' l).size = l.length := by rw [← size_bl, bl_of]
theorem cat_bt (a b : List UInt8) : bt' a ++ bt' b = bt' (a ++ b) := by
 apply ByteArray.ext
 rw [ByteArray.data_append]
 simp [bt']
set_option maxHeartbeats 4000000 in
theorem joined_fn (t : Nat) (xs : List ByteArray) (hn : xs.length ≤ 1000000000) (hl : (catL xs).length ≤ 16777215) : Fn Tryz.prog (envX p) 86 [.v (.int .i64 (t : Nat)), .v (.sl (xs.map encS))] (.v (.str (bt' (UInt8.ofNat t :: (szL (catL xs).length ++ catL xs))))) := by
 have hj := join_fn p xs hn (by omega)
 have he := encode_fn p (catL xs).length hl
 have hsz := size_bt (catL xs)
 have hs4 := (szL_len (catL xs).length).2
 have hs5 := size_bt (szL (catL xs).length)
 have hs6 := size_bt (UInt8.ofNat t :: szL (catL xs).length)
 rw [List.length_cons] at hs6
 refine fn_prog tabOk mixed Tryz.f86 Tryz.func86 (by kernel_rfl) (by kernel_rfl) ?_
 conv => whnf
 (refine st_call hj ?_ rfl rfl ?_; (focus ((repeat' first|exact trivial|exact rfl|exact .inl rfl|exact .inr ⟨rfl,rfl⟩|refine And.intro ?_ ?_);done)); conv => whnf)
 rw [hsz]
 (refine st_call he ?_ rfl rfl ?_; (focus ((repeat' first|exact trivial|exact rfl|exact .inl rfl|exact .inr ⟨rfl,rfl⟩|refine And.intro ?_ ?_);done)); conv => whnf)
 refine ⟨_, rfl, ?_⟩
 conv => whnf
 refine ⟨[UInt8.ofNat t], ?_, ?_⟩
 ·show some [UInt8.ofNat (IntKind.u8.wrap ((t : Nat) : Int)).toNat] = _
  rw [ofNat_wrap]
 conv => whnf
 refine ⟨?_, bt' (UInt8.ofNat t :: szL (catL xs).length), cat_bt [UInt8.ofNat t] (szL (catL xs).length), ?_⟩
 ·rw [show ({ data := [UInt8.ofNat t].toArray } : ByteArray).size = 1 from rfl]
  omega
 conv => whnf
 refine ⟨by omega, _, cat_bt _ _, ?_⟩
 conv => whnf
 exact ⟨.inl rfl, rfl⟩
theorem catL_kids (d : ByteArray) : ∀ l : List Nd, catL (l.map (fun z => bt' (layN z)) ++ [d]) = layNs l ++ bl d
 | [] => by
  show bl d ++ [] = _
  rw [List.append_nil]; rfl
 | x :: r => by
  have h := catL_kids d r
  unfold catL at h ⊢
  rw [List.map_cons, List.cons_append, List.map_cons, List.flatten_cons, h, bl_of, layNs, List.append_assoc]
set_option maxHeartbeats 4000000 in
theorem laid_one (x : Nd) (t : Nat) (ht : x.tag = (t : Nat)) (hrec : ∀ y ∈ x.kids, Fn Tryz.prog (envX p) 60 [.v (.agg (cM y))] (.v (.str (bt' (layN y))))) (hn : x.kids.length ≤ 100000000) (hl : (layNs x.kids ++ bl x.data).length ≤ 16777215) : Fn Tryz.prog (envX p) 60 [.v (.agg (cM x))] (.v (.str (bt' (layN x)))) := by
 have hlay : layN x = UInt8.ofNat t :: (szL (layNs x.kids ++ bl x.data).length ++ (layNs x.kids ++ bl x.data)) := by
  cases x with
  | mk t0 d k =>
   rw [layN]
   rw [show t0.toNat = t from by have : t0 = (t : Nat) := ht; omega]
   rfl
 have hj := joined_fn p t (x.kids.map (fun z => bt' (layN z)) ++ [x.data]) (by simp; omega) (by rw [catL_kids]; exact hl)
 rw [catL_kids, ← hlay] at hj
 refine fn_prog tabOk mixed Tryz.f60 Tryz.func60 (by kernel_rfl) (by kernel_rfl) ?_
 conv => whnf
 refine ⟨Nat, fun i => ⟨27, [(1, .ptr 1 0), (3, .own 17 9 ((x.kids.take i).map fun z => encS (bt' (layN z)))), (7, .v (.sl (x.kids.map cN))), (8, .v (.int .i64 ((x.kids.map cN).length : Nat))), (9, .v (.int .i64 (i : Nat)))], [(1, (cM x).map .v)], [(17, some 9)]⟩, fun i => i ≤ x.kids.length, fun i => x.kids.length - i, ⟨0, [(17, none)], Nat.zero_le _, ?_⟩, fun i hi => ?_⟩
 ·(focus ((repeat' first|exact trivial|exact rfl|exact .inl rfl|exact .inr ⟨rfl,rfl⟩|refine And.intro ?_ ?_);done))
 conv => whnf
 refine ⟨rfl, cmp_split (fun h => ?_) (fun h => ?_)⟩
 ·rw [List.length_map] at h
  have hil : i < x.kids.length := by omega
  conv => whnf
  refine st_idxN hil ?_
  conv => whnf
  (refine st_call (hrec x.kids[i] (List.getElem_mem hil)) ?_ rfl rfl ?_; (focus ((repeat' first|exact trivial|exact rfl|exact .inl rfl|exact .inr ⟨rfl,rfl⟩|refine And.intro ?_ ?_);done)); conv => whnf)
  refine st_app (by simp; omega) (by simp [V.cells]) (map_take_succ (enc := fun z => encS (bt' (layN z))) hil) ?_
  conv => whnf
  refine ⟨rfl, st_succ (by omega) ?_⟩
  conv => whnf
  refine ⟨i + 1, [(17, some 17)], by omega, by dsimp only; omega, ?_⟩
  (focus ((repeat' first|exact trivial|exact rfl|exact .inl rfl|exact .inr ⟨rfl,rfl⟩|refine And.intro ?_ ?_);done))
 ·rw [List.length_map] at h
  have htk : x.kids.take i = x.kids := List.take_of_length_le (by omega)
  conv => whnf
  refine ⟨none, by kernel_rfl, ?_⟩; conv => whnf
  rw [htk, ht]
  refine st_app (zs := (x.kids.map (fun z => bt' (layN z)) ++ [x.data]).map encS) (by simp; omega) (by simp [V.cells]) (by rw [List.map_append, List.map_map]; rfl) ?_
  conv => whnf
  (refine st_call hj ?_ rfl rfl ?_; (focus ((repeat' first|exact trivial|exact rfl|exact .inl rfl|exact .inr ⟨rfl,rfl⟩|refine And.intro ?_ ?_);done)); conv => whnf)
  exact ⟨.inl rfl, rfl⟩
theorem okN_tag {d : Nat} {x : Nd} (h : (preN d x).all okN = true) : ∃ t : Nat, x.tag = (t : Nat) ∧ t < 256 := by
 rw [preN_cons, List.all_cons, Bool.and_eq_true] at h
 obtain ⟨h0, _⟩ := h
 unfold okN at h0
 rw [oneN_val] at h0
 simp only [Bool.and_eq_true, decide_eq_true_eq] at h0
 exact ⟨x.tag.toNat, by omega, by omega⟩
mutual
theorem laid_fn : ∀ (x : Nd) (d : Nat), (preN d x).all okN = true → (layN x).length ≤ 16000000 → Fn Tryz.prog (envX p) 60 [.v (.agg (cM x))] (.v (.str (bt' (layN x))))
 | .mk t0 dt k, d, ha, hl => by
  obtain ⟨t, ht, _⟩ := okN_tag ha
  have hk : (preNs (d + 1) k).all okN = true := by
   rw [preN, List.all_cons, Bool.and_eq_true] at ha
   exact ha.2
  have hll : (layNs k ++ bl dt).length ≤ 16000000 := by
   rw [layN, List.length_cons, List.length_append] at hl
   omega
  have hkl : (layNs k).length ≤ 16000000 := by rw [List.length_append] at hll; omega
  have h2 := len_lays k
  have hks := laid_fns k (d + 1) hk hkl
  exact laid_one p (.mk t0 dt k) t ht hks (by show k.length ≤ _; omega) (by show (layNs k ++ bl dt).length ≤ _; omega)
theorem laid_fns : ∀ (l : List Nd) (d : Nat), (preNs d l).all okN = true → (layNs l).length ≤ 16000000 → ∀ y ∈ l, Fn Tryz.prog (envX p) 60 [.v (.agg (cM y))] (.v (.str (bt' (layN y))))
 | [], d, _, _ => fun y hy => by cases hy
 | x :: r, d, ha, hl => fun y hy => by
  rw [preNs, List.all_append, Bool.and_eq_true] at ha
  rw [layNs, List.length_append] at hl
  have hx := laid_fn x d ha.1 (by omega)
  have hr := laid_fns r d ha.2 (by omega)
  rcases List.mem_cons.1 hy with e | hy
  ·rw [e]; exact hx
  ·exact hr y hy
end
set_option maxHeartbeats 4000000 in
theorem shaped_fn (f : Nd) (hN : (preN 1 f).length ≤ 900000000) : Fn Tryz.prog (envX p) 59 [.v (.agg (cM f))] (.v (.bool (shapedN f))) := by
 have hpl : (preY f).length = (preN 1 f).length := by unfold preY; rw [List.length_map]
 refine fn_prog tabOk mixed Tryz.f59 Tryz.func59 (by kernel_rfl) (by kernel_rfl) ?_
 conv => whnf
 (refine st_call (trees_fn (X := envX p) f) ?_ rfl rfl ?_; (focus ((repeat' first|exact trivial|exact rfl|exact .inl rfl|exact .inr ⟨rfl,rfl⟩|refine And.intro ?_ ?_);done)); conv => whnf)
 refine ⟨_, _, fun j => ⟨29, [(2, .ptr 2 0), (3, .ptr 3 0)], [(2, [.v (.bool false)]), (3, [.v (.int .i64 (j : Nat))])], []⟩, fun j => j ≤ (preN 1 f).length ∧ j ≤ 200 ∧ ((preN 1 f).take j).all okN = true, trees_it f hN, ⟨rfl, trivial⟩, rfl, ⟨⟨Nat.zero_le _, Nat.zero_le _, rfl⟩, [], ?_⟩, fun j => rfl, (show ∀ q ∈ [8, 9], q < 29 by decide), fun j v hv ⟨hj, hj2, ha⟩ => ?_, fun ⟨hj, hj2, ha⟩ => ?_⟩
 ·(focus ((repeat' first|exact trivial|exact rfl|exact .inl rfl|exact .inr ⟨rfl,rfl⟩|refine And.intro ?_ ?_);done))
 ·obtain ⟨hjl, rfl⟩ := pre_get f hv
  have hts := Fi.all_take_succ okN (preN 1 f) j hjl
  have hbad : okN (preN 1 f)[j] = false → shapedN f = false := fun h => by
   unfold shapedN
   rw [Fi.all_bad (f := okN) hjl h, Bool.and_false]
  generalize (preN 1 f)[j] = q at *
  obtain ⟨d, x⟩ := q
  dsimp only
  refine ⟨rfl, ?_⟩
  conv => whnf
  refine ⟨rfl, st_succ (by omega) ?_⟩
  conv => whnf
  refine ⟨rfl, cmp_split (fun h => ?_) (fun h => ?_)⟩
  ·conv => whnf
   refine ⟨[], ⟨29, [(2, .ptr 2 0)], [(2, [.v (.bool false)])], []⟩, by (focus ((repeat' first|exact trivial|exact rfl|exact .inl rfl|exact .inr ⟨rfl,rfl⟩|refine And.intro ?_ ?_);done)), rfl, ?_⟩
   conv => whnf
   exact ⟨.inl (congrArg V.bool (by unfold shapedN; rw [decide_eq_false (by omega)]; rfl)), rfl⟩
  conv => whnf
  refine ⟨rfl, cmp_split (fun h2 => ?_) (fun h2 => ?_)⟩
  ·conv => whnf
   refine ⟨[], ⟨29, [(2, .ptr 2 0)], [(2, [.v (.bool false)])], []⟩, by (focus ((repeat' first|exact trivial|exact rfl|exact .inl rfl|exact .inr ⟨rfl,rfl⟩|refine And.intro ?_ ?_);done)), rfl, ?_⟩
   conv => whnf
   exact ⟨.inl (congrArg V.bool (hbad (by unfold okN; rw [decide_eq_false (by dsimp only; omega)]; rfl)).symm), rfl⟩
  conv => whnf
  refine st_callB (one_fn (X := envX p) x) ⟨.inl rfl, trivial⟩ rfl (fun h3 => ?_) (fun h3 => ?_)
  ·conv => whnf
   refine ⟨rfl, cmp_split (fun h4 => ?_) (fun h4 => ?_)⟩
   ·conv => whnf
    refine ⟨[], ⟨29, [(2, .ptr 2 0)], [(2, [.v (.bool false)])], []⟩, by (focus ((repeat' first|exact trivial|exact rfl|exact .inl rfl|exact .inr ⟨rfl,rfl⟩|refine And.intro ?_ ?_);done)), rfl, ?_⟩
    conv => whnf
    exact ⟨.inl (congrArg V.bool (hbad (by unfold okN; rw [h3, decide_eq_false (show ¬ x.data.size ≤ 4000 by omega), Bool.and_false, Bool.and_false])).symm), rfl⟩
   ·conv => whnf
    refine ⟨⟨hjl, by omega, by rw [hts, ha]; unfold okN; rw [decide_eq_true (by dsimp only; omega), h3, decide_eq_true (show x.data.size ≤ 4000 by omega)]; rfl⟩, [], ?_⟩
    (focus ((repeat' first|exact trivial|exact rfl|exact .inl rfl|exact .inr ⟨rfl,rfl⟩|refine And.intro ?_ ?_);done))
  ·conv => whnf
   refine ⟨[], ⟨29, [(2, .ptr 2 0)], [(2, [.v (.bool false)])], []⟩, by (focus ((repeat' first|exact trivial|exact rfl|exact .inl rfl|exact .inr ⟨rfl,rfl⟩|refine And.intro ?_ ?_);done)), rfl, ?_⟩
   conv => whnf
   exact ⟨.inl (congrArg V.bool (hbad (by unfold okN; rw [h3, Bool.false_and, Bool.and_false])).symm), rfl⟩
 ·conv => whnf
  rw [hpl, List.take_length] at ha
  rw [hpl] at hj2
  exact ⟨.inl (congrArg V.bool (by unfold shapedN; rw [ha, decide_eq_true hj2]; rfl)), rfl⟩
set_option maxHeartbeats 4000000 in
theorem right_fn (f : Nd) (hN : (preN 1 f).length ≤ 900000000) : Fn Tryz.prog (envX p) 36 [.v (.agg (cM f))] (.v (.bool (rightN f))) := by
 refine fn_prog tabOk mixed Tryz.f36 Tryz.func36 (by kernel_rfl) (by kernel_rfl) ?_
 conv => whnf
 refine st_callB (shaped_fn p f hN) ⟨.inl rfl, trivial⟩ rfl (fun h => ?_) (fun h => ?_)
 ·have hs := h
  unfold shapedN at hs
  simp only [Bool.and_eq_true, decide_eq_true_eq] at hs
  have hl := lay_le 1 f hs.2
  have hlf := laid_fn p f 1 hs.2 (by omega)
  have hz := size_bt (layN f)
  conv => whnf
  (refine st_call hlf ?_ rfl rfl ?_; (focus ((repeat' first|exact trivial|exact rfl|exact .inl rfl|exact .inr ⟨rfl,rfl⟩|refine And.intro ?_ ?_);done)); conv => whnf)
  refine ⟨rfl, cmp_split (fun h2 => ?_) (fun h2 => ?_)⟩
  ·conv => whnf
   exact ⟨.inl (congrArg V.bool (by unfold rightN; rw [h, decide_eq_true (by omega)]; rfl)), rfl⟩
  ·conv => whnf
   exact ⟨.inl (congrArg V.bool (by unfold rightN; rw [h, decide_eq_false (by omega)]; rfl)), rfl⟩
 ·conv => whnf
  exact ⟨.inl (congrArg V.bool (by unfold rightN; rw [h]; rfl)), rfl⟩
def encT (f : Nd) : T := if rightN f = true then .tup [.v (.str (bt' (layN f))), .v (.int .i64 0)] else .tup [.v (.str (bt' [])), .v (.int .i64 21)]
set_option maxHeartbeats 4000000 in
theorem tlvEncode_fn (f : Nd) (hN : (preN 1 f).length ≤ 900000000) : Fn Tryz.prog (envX p) 57 [.v (.agg (cM f))] (encT f) := by
 refine fn_prog tabOk mixed Tryz.f57 Tryz.func57 (by kernel_rfl) (by kernel_rfl) ?_
 conv => whnf
 refine st_callB (right_fn p f hN) ⟨.inl rfl, trivial⟩ rfl (fun h => ?_) (fun h => ?_)
 ·have hs := h
  unfold rightN shapedN at hs
  simp only [Bool.and_eq_true, decide_eq_true_eq] at hs
  have hlf := laid_fn p f 1 hs.1.2 (by omega)
  conv => whnf
  (refine st_call hlf ?_ rfl rfl ?_; (focus ((repeat' first|exact trivial|exact rfl|exact .inl rfl|exact .inr ⟨rfl,rfl⟩|refine And.intro ?_ ?_);done)); conv => whnf)
  unfold encT
  rw [if_pos h]
  exact ⟨⟨.inl rfl, .inl rfl, trivial⟩, rfl⟩
 ·conv => whnf
  refine ⟨nodeV p, ⟨by decide, rfl⟩, ?_⟩
  conv => whnf
  (refine st_call (told_node p 0) ?_ rfl rfl ?_; (focus ((repeat' first|exact trivial|exact rfl|exact .inl rfl|exact .inr ⟨rfl,rfl⟩|refine And.intro ?_ ?_);done)); conv => whnf)
  unfold encT
  rw [if_neg (by rw [h]; decide)]
  exact ⟨⟨.inl rfl, .inl rfl, trivial⟩, rfl⟩
end Go.Proofs.YtiafggoaedifdaaGreatDoor.Tl
/- tlv, walked: trees read: heads. Conditions: texts of at most 10^8 bytes. -/
namespace Go.Proofs.YtiafggoaedifdaaGreatDoor.Tl
open Go.RowKit Go.Shelf Go.Lib
open Fl (bl bt' bl_bt bl_of size_bl)
set_option linter.unusedVariables false
def rC (s : ByteArray) (a c : Nat) : List T := [.v (.str s), .v (.int .i64 (a : Nat)), .v (.int .i64 (c : Nat))]
theorem has_fn {X : En} (s : ByteArray) (a c n e : Nat) (ha : a ≤ e) (he : e ≤ 1000000000) : FnM Tryz.prog X 146 [rC s a c] [.ptr 0 0, .v (.int .i64 (n : Nat)), .v (.int .i64 (e : Nat))] (.v (.bool (decide (n ≤ e - a)))) [rC s a c] := by
 refine fnM_prog tabOk mixed Tryz.f146 Tryz.func146 (by kernel_rfl) (by kernel_rfl) rfl rfl rfl rfl ?_
 conv => whnf
 refine st_minus e a ha (by omega) ?_
 conv => whnf
 refine ⟨rfl, cmp_split (fun h => ?_) (fun h => ?_)⟩
 ·conv => whnf
  rw [show decide (n ≤ e - a) = true from decide_eq_true (by omega)]
  (focus ((repeat' first|exact trivial|exact rfl|exact .inl rfl|exact .inr ⟨rfl,rfl⟩|refine And.intro ?_ ?_);done))
 ·conv => whnf
  rw [show decide (n ≤ e - a) = false from decide_eq_false (by omega)]
  (focus ((repeat' first|exact trivial|exact rfl|exact .inl rfl|exact .inr ⟨rfl,rfl⟩|refine And.intro ?_ ?_);done))
theorem bl_ext (s : ByteArray) (e : Nat) : bl (s.extract 0 e) = (bl s).take e := by
 show (s.extract 0 e).data.toList = _
 rw [Lib.extract_data, List.drop_zero, Nat.sub_zero]
 try rfl
theorem drop_take_cons {l : List UInt8} {a e : Nat} (h : a < e) (he : e ≤ l.length) : (l.take e).drop a = l.getD a 0 :: (l.take e).drop (a + 1) := by
 have hlt : a < (l.take e).length := by rw [List.length_take]; omega
 rw [List.drop_eq_getElem_cons hlt, List.getElem_take, List.getD_eq_getElem?_getD, List.getElem?_eq_getElem (by omega)]
 try rfl
variable (p : Nat → Addr)
def HdOk (o : Except TE (Nat × List UInt8 × List UInt8)) (s : ByteArray) (e c : Nat) (r : T) (css' : List (List T)) : Prop := match o with
 | .ok (t, body, rest) => r = .tup [.v (.int .i64 (t : Nat)), .v (.int .i64 ((e - rest.length : Nat) : Int)), .v .nili] ∧ css' = [rC s (e - rest.length - body.length) (c + 1)]
 | .error er => ∃ (n : Int) (a' : Nat), r = .tup [.v (.int .i64 0), .v (.int .i64 0), .v (tErr n (teV p er))] ∧ css' = [rC s a' (c + 1)]
set_option maxHeartbeats 4000000 in
theorem head_fn (s : ByteArray) (hs : s.size ≤ 100000000) (e a c m : Nat) (he : e ≤ s.size) (ha : a ≤ e) (hc : c ≤ 1000) (hm : m ≤ 12) : ∃ r css', HdOk p (hdN m c (((bl s).take e).drop a)) s e c r css' ∧ FnM Tryz.prog (envX p) 133 [rC s a c] [.ptr 0 0, .v (.int .i64 (e : Nat)), .v (.int .i64 ((13 - m : Nat) : Int))] r css' := by
 have hbl : (bl s).length = s.size := size_bl s
 by_cases h1 : 200 < c + 1
 ·refine ⟨.tup [.v (.int .i64 0), .v (.int .i64 0), .v (tErr (a : Nat) (nodeV p))], [rC s a (c + 1)], ?_, ?_⟩
  ·unfold hdN
   rw [if_pos h1]
   exact ⟨_, _, rfl, rfl⟩
  refine fnM_prog tabOk mixed Tryz.f133 Tryz.func133 (by kernel_rfl) (by kernel_rfl) rfl rfl rfl rfl ?_
  conv => whnf
  refine ⟨rfl, st_succ (by omega) ?_⟩
  conv => whnf
  refine ⟨rfl, cmp_true (by omega) ?_⟩
  conv => whnf
  refine ⟨none, by kernel_rfl, ?_⟩; conv => whnf
  refine ⟨nodeV p, ⟨by decide, rfl⟩, ?_⟩
  conv => whnf
  (focus ((repeat' first|exact trivial|exact rfl|exact .inl rfl|exact .inr ⟨rfl,rfl⟩|refine And.intro ?_ ?_);done))
 by_cases h2 : m = 0
 ·refine ⟨.tup [.v (.int .i64 0), .v (.int .i64 0), .v (tErr (a : Nat) (nodeV p))], [rC s a (c + 1)], ?_, ?_⟩
  ·unfold hdN
   rw [if_neg h1, if_pos h2]
   exact ⟨_, _, rfl, rfl⟩
  refine fnM_prog tabOk mixed Tryz.f133 Tryz.func133 (by kernel_rfl) (by kernel_rfl) rfl rfl rfl rfl ?_
  conv => whnf
  refine ⟨rfl, st_succ (by omega) ?_⟩
  conv => whnf
  refine ⟨rfl, cmp_false (by omega) ?_⟩
  conv => whnf
  refine ⟨rfl, cmp_true (by omega) ?_⟩
  conv => whnf
  refine ⟨none, by kernel_rfl, ?_⟩; conv => whnf
  refine ⟨nodeV p, ⟨by decide, rfl⟩, ?_⟩
  conv => whnf
  (focus ((repeat' first|exact trivial|exact rfl|exact .inl rfl|exact .inr ⟨rfl,rfl⟩|refine And.intro ?_ ?_);done))
 have hh := has_fn (X := envX p) s a (c + 1) 1 e ha (by omega)
 by_cases h3 : a = e
 ·subst h3
  rw [decide_eq_false (by omega)] at hh
  refine ⟨.tup [.v (.int .i64 0), .v (.int .i64 0), .v (tErr (a : Nat) (shortV p))], [rC s a (c + 1)], ?_, ?_⟩
  ·unfold hdN
   rw [if_neg h1, if_neg h2, List.drop_eq_nil_of_le (by rw [List.length_take]; omega)]
   exact ⟨_, _, rfl, rfl⟩
  refine fnM_prog tabOk mixed Tryz.f133 Tryz.func133 (by kernel_rfl) (by kernel_rfl) rfl rfl rfl rfl ?_
  conv => whnf
  refine ⟨rfl, st_succ (by omega) ?_⟩
  conv => whnf
  refine ⟨rfl, cmp_false (by omega) ?_⟩
  conv => whnf
  refine ⟨rfl, cmp_false (by omega) ?_⟩
  conv => whnf
  (refine st_callM [129] (hh) rfl ?_ ?_ rfl ?_; (focus ((repeat' first|exact trivial|exact rfl|exact .inl rfl|exact .inr ⟨rfl,rfl⟩|refine And.intro ?_ ?_);done)); (focus ((repeat' first|exact trivial|exact rfl|exact .inl rfl|exact .inr ⟨rfl,rfl⟩|refine And.intro ?_ ?_);done)); conv => whnf)
  refine ⟨none, by kernel_rfl, ?_⟩; conv => whnf
  refine ⟨shortV p, ⟨by decide, rfl⟩, ?_⟩
  conv => whnf
  (focus ((repeat' first|exact trivial|exact rfl|exact .inl rfl|exact .inr ⟨rfl,rfl⟩|refine And.intro ?_ ?_);done))
 rw [decide_eq_true (by omega)] at hh
 have hcons := drop_take_cons (l := bl s) (show a < e by omega) (by omega)
 have hsz0 : (s.extract 0 e).size = e := by rw [ByteArray.size_extract]; omega
 have hdec := decode_fn p (s.extract 0 e) (a + 1) (by omega) (by omega)
 unfold decT at hdec
 rw [bl_ext, hsz0] at hdec
 have hlr : (((bl s).take e).drop (a + 1)).length = e - (a + 1) := by rw [List.length_drop, List.length_take]; omega
 rw [hcons]
 have hget : ∀ K : UInt8 → Prop, K ((bl s).getD a 0) → ∃ c : UInt8, (0 : Int) ≤ (a : Nat) ∧ s.data.toList[((a : Nat) : Int).toNat]? = some c ∧ K c := fun K hK => st_getD (by omega) hK
 generalize (bl s).getD a 0 = b at *
 generalize hr : ((bl s).take e).drop (a + 1) = r at *
 have hb := b.toNat_lt
 by_cases h4 : b.toNat % 32 = 31
 ·refine ⟨.tup [.v (.int .i64 0), .v (.int .i64 0), .v (tErr (a : Nat) (tagV p))], [rC s a (c + 1)], ?_, ?_⟩
  ·unfold hdN
   rw [if_neg h1, if_neg h2]
   dsimp only
   rw [if_pos h4]
   exact ⟨_, _, rfl, rfl⟩
  refine fnM_prog tabOk mixed Tryz.f133 Tryz.func133 (by kernel_rfl) (by kernel_rfl) rfl rfl rfl rfl ?_
  conv => whnf
  refine ⟨rfl, st_succ (by omega) ?_⟩
  conv => whnf
  refine ⟨rfl, cmp_false (by omega) ?_⟩
  conv => whnf
  refine ⟨rfl, cmp_false (by omega) ?_⟩
  conv => whnf
  (refine st_callM [129] (hh) rfl ?_ ?_ rfl ?_; (focus ((repeat' first|exact trivial|exact rfl|exact .inl rfl|exact .inr ⟨rfl,rfl⟩|refine And.intro ?_ ?_);done)); (focus ((repeat' first|exact trivial|exact rfl|exact .inl rfl|exact .inr ⟨rfl,rfl⟩|refine And.intro ?_ ?_);done)); conv => whnf)
  refine ⟨none, by kernel_rfl, ?_⟩; conv => whnf
  refine hget _ ?_
  conv => whnf
  refine st_int b ?_
  conv => whnf
  refine ⟨rfl, _, and31 b.toNat (by omega), ?_⟩
  conv => whnf
  refine ⟨rfl, cmp_true (by omega) ?_⟩
  conv => whnf
  refine ⟨none, by kernel_rfl, ?_⟩; conv => whnf
  refine ⟨tagV p, ⟨by decide, rfl⟩, ?_⟩
  conv => whnf
  (focus ((repeat' first|exact trivial|exact rfl|exact .inl rfl|exact .inr ⟨rfl,rfl⟩|refine And.intro ?_ ?_);done))
 cases hz : szR r with
 | error er =>
  rw [hz] at hdec
  dsimp only at hdec
  have her := szR_err hz
  refine ⟨.tup [.v (.int .i64 0), .v (.int .i64 0), .v (tErr (a : Nat) (lenV er))], [rC s a (c + 1)], ?_, ?_⟩
  ·unfold hdN
   rw [if_neg h1, if_neg h2]
   dsimp only
   rw [if_neg h4, hz]
   exact ⟨_, _, rfl, rfl⟩
  refine fnM_prog tabOk mixed Tryz.f133 Tryz.func133 (by kernel_rfl) (by kernel_rfl) rfl rfl rfl rfl ?_
  conv => whnf
  refine ⟨rfl, st_succ (by omega) ?_⟩
  conv => whnf
  refine ⟨rfl, cmp_false (by omega) ?_⟩
  conv => whnf
  refine ⟨rfl, cmp_false (by omega) ?_⟩
  conv => whnf
  (refine st_callM [129] (hh) rfl ?_ ?_ rfl ?_; (focus ((repeat' first|exact trivial|exact rfl|exact .inl rfl|exact .inr ⟨rfl,rfl⟩|refine And.intro ?_ ?_);done)); (focus ((repeat' first|exact trivial|exact rfl|exact .inl rfl|exact .inr ⟨rfl,rfl⟩|refine And.intro ?_ ?_);done)); conv => whnf)
  refine ⟨none, by kernel_rfl, ?_⟩; conv => whnf
  refine hget _ ?_
  conv => whnf
  refine st_int b ?_
  conv => whnf
  refine ⟨rfl, _, and31 b.toNat (by omega), ?_⟩
  conv => whnf
  refine ⟨rfl, cmp_false (by omega) ?_⟩
  conv => whnf
  refine ⟨none, by kernel_rfl, ?_⟩; conv => whnf
  refine st_cut 0 e rfl rfl (by omega) he ?_
  conv => whnf
  refine ⟨rfl, st_succ (by omega) ?_⟩
  conv => whnf
  (refine st_call hdec ?_ rfl rfl ?_; (focus ((repeat' first|exact trivial|exact rfl|exact .inl rfl|exact .inr ⟨rfl,rfl⟩|refine And.intro ?_ ?_);done)); conv => whnf)
  refine ⟨rfl, cmp_true (by omega) ?_⟩
  conv => whnf
  refine ⟨none, by kernel_rfl, ?_⟩; conv => whnf
  (focus ((repeat' first|exact trivial|exact rfl|exact .inl rfl|exact .inr ⟨rfl,rfl⟩|refine And.intro ?_ ?_);done))
 | ok q =>
  obtain ⟨n, r2⟩ := q
  rw [hz] at hdec
  dsimp only at hdec
  obtain ⟨z1, z2, z3, k, hk⟩ := szR_le hz
  rw [hlr] at z2 z3
  have hh2 := has_fn (X := envX p) s (e - r2.length) (c + 1) n e (by omega) (by omega)
  by_cases h5 : r2.length < n
  ·rw [decide_eq_false (by omega)] at hh2
   refine ⟨.tup [.v (.int .i64 0), .v (.int .i64 0), .v (tErr ((e - r2.length : Nat) : Int) (shortV p))], [rC s (e - r2.length) (c + 1)], ?_, ?_⟩
   ·unfold hdN
    rw [if_neg h1, if_neg h2]
    dsimp only
    rw [if_neg h4, hz]
    dsimp only
    rw [if_pos h5]
    exact ⟨_, _, rfl, rfl⟩
   refine fnM_prog tabOk mixed Tryz.f133 Tryz.func133 (by kernel_rfl) (by kernel_rfl) rfl rfl rfl rfl ?_
   conv => whnf
   refine ⟨rfl, st_succ (by omega) ?_⟩
   conv => whnf
   refine ⟨rfl, cmp_false (by omega) ?_⟩
   conv => whnf
   refine ⟨rfl, cmp_false (by omega) ?_⟩
   conv => whnf
   (refine st_callM [129] (hh) rfl ?_ ?_ rfl ?_; (focus ((repeat' first|exact trivial|exact rfl|exact .inl rfl|exact .inr ⟨rfl,rfl⟩|refine And.intro ?_ ?_);done)); (focus ((repeat' first|exact trivial|exact rfl|exact .inl rfl|exact .inr ⟨rfl,rfl⟩|refine And.intro ?_ ?_);done)); conv => whnf)
   refine ⟨none, by kernel_rfl, ?_⟩; conv => whnf
   refine hget _ ?_
   conv => whnf
   refine st_int b ?_
   conv => whnf
   refine ⟨rfl, _, and31 b.toNat (by omega), ?_⟩
   conv => whnf
   refine ⟨rfl, cmp_false (by omega) ?_⟩
   conv => whnf
   refine ⟨none, by kernel_rfl, ?_⟩; conv => whnf
   refine st_cut 0 e rfl rfl (by omega) he ?_
   conv => whnf
   refine ⟨rfl, st_succ (by omega) ?_⟩
   conv => whnf
   (refine st_call hdec ?_ rfl rfl ?_; (focus ((repeat' first|exact trivial|exact rfl|exact .inl rfl|exact .inr ⟨rfl,rfl⟩|refine And.intro ?_ ?_);done)); conv => whnf)
   refine ⟨rfl, cmp_false (by decide) ?_⟩
   conv => whnf
   (refine st_callM [129] (hh2) rfl ?_ ?_ rfl ?_; (focus ((repeat' first|exact trivial|exact rfl|exact .inl rfl|exact .inr ⟨rfl,rfl⟩|refine And.intro ?_ ?_);done)); (focus ((repeat' first|exact trivial|exact rfl|exact .inl rfl|exact .inr ⟨rfl,rfl⟩|refine And.intro ?_ ?_);done)); conv => whnf)
   refine ⟨none, by kernel_rfl, ?_⟩; conv => whnf
   refine ⟨shortV p, ⟨by decide, rfl⟩, ?_⟩
   conv => whnf
   (focus ((repeat' first|exact trivial|exact rfl|exact .inl rfl|exact .inr ⟨rfl,rfl⟩|refine And.intro ?_ ?_);done))
  ·rw [decide_eq_true (by omega)] at hh2
   refine ⟨.tup [.v (.int .i64 (b.toNat : Nat)), .v (.int .i64 ((e - r2.length + n : Nat) : Int)), .v .nili], [rC s (e - r2.length) (c + 1)], ?_, ?_⟩
   ·unfold hdN
    rw [if_neg h1, if_neg h2]
    dsimp only
    rw [if_neg h4, hz]
    dsimp only
    rw [if_neg h5]
    refine ⟨?_, ?_⟩
    ·rw [List.length_drop, show e - (r2.length - n) = e - r2.length + n by omega]
    ·rw [List.length_drop, List.length_take, show e - (r2.length - n) - min n r2.length = e - r2.length by omega]
   refine fnM_prog tabOk mixed Tryz.f133 Tryz.func133 (by kernel_rfl) (by kernel_rfl) rfl rfl rfl rfl ?_
   conv => whnf
   refine ⟨rfl, st_succ (by omega) ?_⟩
   conv => whnf
   refine ⟨rfl, cmp_false (by omega) ?_⟩
   conv => whnf
   refine ⟨rfl, cmp_false (by omega) ?_⟩
   conv => whnf
   (refine st_callM [129] (hh) rfl ?_ ?_ rfl ?_; (focus ((repeat' first|exact trivial|exact rfl|exact .inl rfl|exact .inr ⟨rfl,rfl⟩|refine And.intro ?_ ?_);done)); (focus ((repeat' first|exact trivial|exact rfl|exact .inl rfl|exact .inr ⟨rfl,rfl⟩|refine And.intro ?_ ?_);done)); conv => whnf)
   refine ⟨none, by kernel_rfl, ?_⟩; conv => whnf
   refine hget _ ?_
   conv => whnf
   refine st_int b ?_
   conv => whnf
   refine ⟨rfl, _, and31 b.toNat (by omega), ?_⟩
   conv => whnf
   refine ⟨rfl, cmp_false (by omega) ?_⟩
   conv => whnf
   refine ⟨none, by kernel_rfl, ?_⟩; conv => whnf
   refine st_cut 0 e rfl rfl (by omega) he ?_
   conv => whnf
   refine ⟨rfl, st_succ (by omega) ?_⟩
   conv => whnf
   (refine st_call hdec ?_ rfl rfl ?_; (focus ((repeat' first|exact trivial|exact rfl|exact .inl rfl|exact .inr ⟨rfl,rfl⟩|refine And.intro ?_ ?_);done)); conv => whnf)
   refine ⟨rfl, cmp_false (by decide) ?_⟩
   conv => whnf
   (refine st_callM [129] (hh2) rfl ?_ ?_ rfl ?_; (focus ((repeat' first|exact trivial|exact rfl|exact .inl rfl|exact .inr ⟨rfl,rfl⟩|refine And.intro ?_ ?_);done)); (focus ((repeat' first|exact trivial|exact rfl|exact .inl rfl|exact .inr ⟨rfl,rfl⟩|refine And.intro ?_ ?_);done)); conv => whnf)
   refine st_add (e - r2.length) n (by omega) ?_
   conv => whnf
   (focus ((repeat' first|exact trivial|exact rfl|exact .inl rfl|exact .inr ⟨rfl,rfl⟩|refine And.intro ?_ ?_);done))
end Go.Proofs.YtiafggoaedifdaaGreatDoor.Tl
