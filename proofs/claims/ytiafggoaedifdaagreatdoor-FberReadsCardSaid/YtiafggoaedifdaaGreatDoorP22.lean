/- Several texts, one behind the other. The walk without memory: functions that give variables of theirs away, in closures, to be read alone. Whatever program. filt, walked: a slice, backward; its elements as they lie. Conditions: at most 10^9 elements. filt, walked: all filters in one, from the top, as an iterator. Conditions: at most 5 * 10^8 of them. filt, walked: which filters are right, their names. Conditions: at most 5 * 10^8 filters in one, texts of at most 10^8 bytes. -/
import Derived.Test.YtiafggoaedifdaaGreatDoorP20
import Derived.Test.YtiafggoaedifdaaGreatDoorP19
import Derived.Test.YtiafggoaedifdaaGreatDoorP21
/- The walk without memory: functions that give variables of theirs away, in closures, to be read alone. Whatever program. -/
namespace Go.Proofs.YtiafggoaedifdaaGreatDoor
open Go.RowKit
set_option linter.unusedVariables false
variable {P : Program} {X : En} {tb : Tab}
mutual
def PubT (st : St) : T → T → Prop
 | .ptr i o, .ro cs => ∃ l, lk i st.bs = some l ∧ toVs (l.drop o) = some cs
 | .fn f cs, .fn g ds => f = g ∧ PubTs st cs ds
 | .v x, .v y => x = y ∨ (x.nz = y ∧ y = y)
 | .ro a, .ro b => a = b
 | _, _ => False
def PubTs (st : St) : List T → List T → Prop
 | [], [] => True
 | x :: xs, y :: ys => PubT st x y ∧ PubTs st xs ys
 | _, _ => False
end
def Gh.pub (g : Gh) (st : St) : Lv := fun b o => g.L b o ∨ ∃ i l, lk i st.bs = some l ∧ b = (g.ρ i).1 ∧ (g.ρ i).2 ≤ o ∧ o < (g.ρ i).2 + l.length
theorem rep_one {w : World} {L : Lv} {x : V} {u : Value} (h : Rep w L x u) (ho : u.oneCell' = true) : x.one = true := by
 cases x with
 | agg l => obtain ⟨cs, rfl, _⟩ := h; cases ho
 | raw v => rw [show u = v from h] at ho; exact ho
 | _ => rfl
theorem pub_same {w : World} {g : Gh} {st : St} : Same g.L w (g.pub st) w := ⟨fun b o u h1 h2 => ⟨.inl h1, h2⟩, .refl _⟩
theorem toVs_get {l : List T} {cs : List V} {j : Nat} {x : V} (h : toVs l = some cs) (hx : cs[j]? = some x) : ∃ t, l[j]? = some t ∧ t.toV = some x := by
 induction l generalizing cs j with
 | nil => cases h; simp at hx
 | cons t r ih =>
  unfold toVs at h
  split at h <;> try cases h
  rename_i y hy
  split at h <;> try cases h
  rename_i ys hys
  cases j with
  | zero => simp at hx; subst hx; exact ⟨t, rfl, hy⟩
  | succ j => exact ih hys (by simpa using hx)
mutual
theorem PubT.rep {base : Nat} {S : Nat → Prop} {st : St} {a : Act} {w : World} {g : Gh} (hd : Hd P X base S st a w g) : ∀ (t r : T) (v : Value), PubT st t r → RepT P w g t v → RepT P w ⟨g.pub st, fun _ => (0, 0), fun _ => undef⟩ r v
 | .ptr i o, .ro cs, v, ⟨l, h1, h2⟩, r => by
  refine ⟨(g.ρ i).1, (g.ρ i).2 + o, r, RepC.of_get _ _ fun j x hx => ?_⟩
  obtain ⟨t, ht, htx⟩ := toVs_get h2 hx
  rw [List.getElem?_drop] at ht
  obtain ⟨u, hu, hr, ho⟩ := hd.mm.box h1 ht
  have hrx := toV_rep hr htx
  refine ⟨u, .inr ⟨i, l, h1, rfl, by omega, ?_⟩, by rw [Nat.add_assoc]; exact hu, rep_one hrx ho, Rep.mono pub_same _ _ hrx⟩
  have := (List.getElem?_eq_some_iff.1 ht).1
  omega
 | .fn f cs, .fn g' ds, v, ⟨h1, h2⟩, ⟨us, e, r⟩ => by subst h1; exact ⟨us, e, PubTs.rep hd cs ds us.toList h2 r⟩
 | .v x, .v y, v, h, r => by
  rcases h with rfl | ⟨rfl, _⟩
  ·exact Rep.mono pub_same _ _ r
  ·exact nz_rep (Rep.mono pub_same _ _ r)
 | .ro a, .ro b, v, h, ⟨b', o, e, r⟩ => by rw [PubT] at h; subst h; exact ⟨b', o, e, RepC.mono pub_same b' a o r⟩
theorem PubTs.rep {base : Nat} {S : Nat → Prop} {st : St} {a : Act} {w : World} {g : Gh} (hd : Hd P X base S st a w g) : ∀ (l m : List T) (vs : List Value), PubTs st l m → RepTs P w g l vs → RepTs P w ⟨g.pub st, fun _ => (0, 0), fun _ => undef⟩ m vs
 | [], [], _, _, r => r
 | x :: xs, y :: ys, _, ⟨h1, h2⟩, ⟨u, us, e, r, rs⟩ => ⟨u, us, e, PubT.rep hd x y u h1 r, PubTs.rep hd xs ys us h2 rs⟩
 | [], _ :: _, _, h, _ => h.elim
 | _ :: _, [], _, h, _ => h.elim
end
def endP (tb : Tab) (rs : List ResultVar) (r : T) : Exit → St → Prop
 | .normal, st => match resTs tb st rs with
  | some [t] => PubT st t r
  | _ => False
 | .ret, st => match resTs tb st rs with
  | some [t] => PubT st t r
  | _ => False
 | _, _ => False
theorem results_one (hT : TabOk P tb) {base : Nat} {S : Nat → Prop} {st : St} {a : Act} {w : World} {g : Gh} (hd : Hd P X base S st a w g) {fn : Func} {t : T} (h : resTs tb st fn.results.toList = some [t]) : ∃ v, (results fn a.tmps).run P w = .ok v w ∧ RepT P w g t v := by
 obtain ⟨vs, h1, h2⟩ := resTs_rep hT hd h
 have hrun : (fn.results.mapM (fun x => (match x with | .tmp t => pure (a.tmps.getD t undef) | .cell y t => do loadVar t (← asAddr (a.tmps.getD y undef)) : Sem Value))).run P w = .ok vs.toArray w := by
  rw [Array.mapM_eq_mapM_toList]
  simp only [Sem.run_map]
  exact congrArg (fun r => Result.andThen r fun a w' => Result.ok (List.toArray a) w') h1
 have hres : (results fn a.tmps).run P w = ((fn.results.mapM (fun x => (match x with | .tmp t => pure (a.tmps.getD t undef) | .cell y t => do loadVar t (← asAddr (a.tmps.getD y undef)) : Sem Value))).run P w).andThen fun vs w' => ((pure (if h : vs.size = 1 then vs[0] else .tuple vs)) : Sem Value).run P w' := by
  unfold results
  rw [Sem.run_bind]
  rfl
 obtain ⟨v, us, rfl, r1, r2⟩ := h2
 obtain rfl : us = [] := r2
 exact ⟨v, by rw [hres, hrun]; rfl, r1⟩
theorem fnP_prog (hT : TabOk P tb) (hm : P.follows .mixedOrders = true) {f : FuncId} (fn : Func) {args : List T} {r : T} (hf : P.funcs[f]? = some fn) (hb : (fn.name == "runtime.NumGoroutine" || fn.body.isNone) = false) (hs : simpC (bodyOf fn) = true) (hn : Nat.ble args.length fn.ntmps = true)
  (h : aCode P X tb (bodyOf fn) (endP tb fn.results.toList r) (St.head fn.ntmps args)) : Fn P X f args r := by
 cases hc : fn.body with
 | none => rw [hc] at hb; simp at hb
 | some c =>
  have hbd : bodyOf fn = c := by unfold bodyOf; rw [hc]
  rw [hbd] at hs h
  refine ⟨enter_of (by rw [hf, Option.map_some, hb]), fun w L vs hE hL hargs => ?_⟩
  have hn' := Nat.le_of_ble_eq_true hn
  have hvl := hargs.length
  have hd : Hd P X w.heap.size (fun _ => False) (St.head fn.ntmps args) { tmps := vs.toArray ++ Array.replicate (fn.ntmps - vs.toArray.size) undef, defers := [] } w ⟨L, fun _ => (0, 0), fun _ => undef⟩ := by
   refine ⟨by simp [St.head]; omega, fun t => ?_, ⟨fun hi => (by cases hi), fun hi => (by cases hi), fun hi => (by cases hi), fun hi => (by cases hi), fun hi => (by cases hi), fun hi => (by cases hi), fun hi => (by cases hi), fun hi => (by cases hi), fun hi => (by cases hi), hL, fun hi => (by cases hi), fun hi => (by cases hi)⟩, hE, Nat.le_refl _⟩
   have := argsE_get 0 t hargs
   rw [if_neg (by omega), Nat.sub_zero] at this
   refine Eq.mpr ?_ this
   congr 1
   show ((vs.toArray ++ Array.replicate (fn.ntmps - vs.toArray.size) undef).getD t undef) = _
   rw [Array.getD_eq_getD_getElem?, List.getD_eq_getElem?_getD]
   by_cases ht : t < vs.length
   ·rw [Array.getElem?_append_left (by simpa using ht)]; simp
   ·rw [Array.getElem?_append_right (by simpa using ht), List.getElem?_eq_none (by omega)]
    by_cases h2 : t - vs.toArray.size < fn.ntmps - vs.toArray.size
    ·rw [Array.getElem?_replicate, if_pos h2]; rfl
    ·rw [Array.getElem?_replicate, if_neg h2]
  have hw := simp_wp hT hm c hs X ⟨fun _ h => h, fun _ h => h⟩ w.heap.size fn.ntmps (fun _ => False) Fence.wide 1 (.inl rfl) (fun _ => True) (fun _ _ => trivial) _ _ _ w _ (fun ch st h => h.elim) h hd rfl
  refine callsIn_wide.1 (callsIn_of_wp_marks (n := 1) hf hc trivial (wpIn_mono hw ?_))
  rintro e a' w' ⟨st', g', q1, q2, q3, q4, q5, q6⟩
  have fin : (match resTs tb st' fn.results.toList with | some [t] => PubT st' t r | _ => False) → LeavesInM Fence.wide 1 P fn a'.tmps (fun e w' => ∃ v L', e = .returned v ∧ Below w.heap.size w w' ∧ Same L w L' w' ∧ (∀ {b o}, L' b o → L b o ∨ w.heap.size ≤ b) ∧ (∀ {b o}, L' b o → ∃ u, w'.cell? ⟨b, o, none⟩ = some u) ∧ RepT P w' ⟨L', fun _ => (0, 0), fun _ => undef⟩ r v) a'.defers .returning w' := fun hr => by
   split at hr <;> try exact hr.elim
   rename_i t hts
   obtain ⟨v, hv, r1⟩ := results_one hT q2 hts
   rw [q5]
   have hu1 := q3.upd
   refine ⟨v, hv, v, g'.pub st', rfl, ⟨hu1.os, hu1.tape, hu1.output, hu1.size, fun k hk => hu1.block k hk (by rintro (h | h); exact h; omega)⟩, ⟨fun b o u h1 h2 => ?_, q3.same.m⟩, fun {b o} h => ?_, fun {b o} h => ?_, PubT.rep q2 _ _ _ hr r1⟩
   ·obtain ⟨h3, h4⟩ := q3.same.c b o u h1 h2
    exact ⟨.inl h3, h4⟩
   ·rcases h with h | ⟨i, l, hi, rfl, _, _⟩
    ·exact (q3.newL h).imp id And.left
    ·rcases q2.mm.loc (i := i) (by unfold isK; rw [hi]; rfl) with h | h
     ·exact h.elim
     ·exact .inr h
   ·rcases h with h | ⟨i, l, hi, rfl, h1, h2⟩
    ·exact q2.mm.Lc h
    ·obtain ⟨u, hu, _⟩ := q2.mm.box hi (j := o - (g'.ρ i).2) (List.getElem?_eq_getElem (by omega))
     exact ⟨u, by rw [show (g'.ρ i).2 + (o - (g'.ρ i).2) = o by omega] at hu; exact hu⟩
  cases e with
  | normal => exact fin q1
  | ret => exact fin q1
  | exit id => exact q1.elim
  | goto l => exact q1.elim
  | panic ch => exact q1.elim
  | outgrown => exact q1.elim
end Go.Proofs.YtiafggoaedifdaaGreatDoor
/- filt, walked: a slice, backward; its elements as they lie. Conditions: at most 10^9 elements. -/
namespace Go.Proofs.YtiafggoaedifdaaGreatDoor.Fi
open Go.RowKit Go.Shelf Go.Lib Fl
set_option linter.unusedVariables false
variable {X : En}
structure V6 where
 a : Value
 b : Value
 c : Value
 d : Value
 e : Value
 f : Value
def e6 (u : V6) : List V := [.raw u.a, .raw u.b, .raw u.c, .raw u.d, .raw u.e, .raw u.f]
def l6 (u : V6) : List Value := [u.a, u.b, u.c, u.d, u.e, u.f]
theorem backward_fn (xs : List (List V)) : Fn Tryz.prog X 68 [.v (.sl xs)] (.fn 98 [.ro [.sl xs]]) := by
 refine fnP_prog tabOk mixed Tryz.f68 Tryz.func68 (by kernel_rfl) (by kernel_rfl) (by kernel_rfl) ?_
 conv => whnf
 exact ⟨rfl, ⟨_, rfl, rfl⟩, trivial⟩
def bwY (l : List V6) : List (List V) := l.zipIdx.reverse.map fun q => [.int .i64 (q.2 : Nat), .agg (e6 q.1)]
theorem bwY_get (l : List V6) (j : Nat) (h : 1 ≤ j) (hj : j ≤ l.length) : (bwY l)[l.length - j]? = some [.int .i64 ((j - 1 : Nat) : Int), .agg (e6 (l[j - 1]'(by omega)))] := by
 unfold bwY
 rw [List.getElem?_map, List.getElem?_reverse (by rw [List.length_zipIdx]; omega), List.length_zipIdx, List.getElem?_zipIdx, show l.length - 1 - (l.length - j) = j - 1 by omega, List.getElem?_eq_getElem (by omega)]
 simp
theorem backward_it (l : List V6) (hl : l.length ≤ 1000000000) : It Tryz.prog X 98 [.ro [.sl (l.map e6)]] (bwY l) := by
 refine it_prog tabOk mixed Tryz.f98 Tryz.func98 (by kernel_rfl) (by kernel_rfl) (by kernel_rfl) fun k cvs hE hL0 hcv => ⟨_, hcv, rfl, by kernel_rfl, ?_⟩
 have hyl : (bwY l).length = l.length := by unfold bwY; simp
 conv => whnf
 refine ⟨rfl, (l.length : Int) - 1, by rw [List.length_map]; exact wrap64 (by omega) (by omega), ?_⟩
 conv => whnf
 refine ⟨[], trivial, rfl, Nat, fun j => ⟨19, [(0, .v (.raw (.func (.yield k.l0) #[] #[]))), (1, .ro [.sl (l.map e6)]), (3, .v (.int .i64 (((j : Nat) : Int) - 1)))], [], []⟩, fun j => some (l.length - j), fun j => j ≤ l.length, fun j => j, ⟨l.length, [], Nat.le_refl _, by simp, ?_⟩, fun j hj => ?_⟩
 ·exact ⟨rfl, rfl, ⟨.inl rfl, rfl, .inl rfl, trivial⟩, trivial, trivial⟩
 conv => whnf
 refine ⟨rfl, cmp_split (fun h => ?_) (fun h => ?_)⟩
 ·have hj1 : 1 ≤ j := by omega
  conv => whnf
  refine ⟨e6 (l[j - 1]'(by omega)), by omega, by rw [show ((j : Int) - 1).toNat = j - 1 by omega, List.getElem?_map, List.getElem?_eq_getElem (by omega)]; rfl, rfl, ?_⟩
  conv => whnf
  refine ⟨11, _, _, [], ⟨19, [(0, .v (.raw (.func (.yield k.l0) #[] #[]))), (1, .ro [.sl (l.map e6)]), (3, .v (.int .i64 (((j : Nat) : Int) - 1)))], [], []⟩, rfl, rfl, rfl, ?_, .inl ⟨rfl, .inl rfl⟩, ⟨rfl, ⟨.inl ⟨rfl, .inl rfl⟩, .inr rfl, .inl ⟨rfl, .inl rfl⟩, trivial⟩, trivial, trivial, rfl⟩, ?_, ?_⟩
  ·rw [bwY_get l j hj1 hj, show (((j - 1 : Nat) : Int)) = (j : Int) - 1 by omega]; rfl
  ·conv => whnf
   refine ⟨rfl, ((j - 1 : Nat) : Int) - 1, (by rw [show ((j : Int) - 1 - 1) = ((j - 1 : Nat) : Int) - 1 by omega]; exact wrap64 (by omega) (by omega)), ?_⟩
   conv => whnf
   refine ⟨j - 1, [], by dsimp only; omega, by dsimp only; congr 1; omega, by dsimp only; omega, ?_⟩
   exact ⟨rfl, rfl, ⟨.inl rfl, rfl, .inl rfl, trivial⟩, trivial, trivial⟩
  ·conv => whnf
   exact .inr rfl
 ·conv => whnf
  have : j = 0 := by omega
  subst this
  exact .inl (by rw [hyl]; rfl)
end Go.Proofs.YtiafggoaedifdaaGreatDoor.Fi
/- filt, walked: all filters in one, from the top, as an iterator. Conditions: at most 5 * 10^8 of them. -/
namespace Go.Proofs.YtiafggoaedifdaaGreatDoor.Fi
open Go.RowKit Go.Shelf Go.Lib Fl
set_option linter.unusedVariables false
variable {X : En}
theorem tab_sub {P : Program} {tb : Tab} (h : TabOk P tb) : TabOk P { tb with sub := true } := ⟨h.mps, h.eqs, h.fld, h.siz, h.byt, h.elt, h.zer, h.str, h.boo, h.ints, h.conT, h.conF⟩
structure El where
 d : Nat
 x : Flt
 u : V6
def encR (q : El) : List V := e6 q.u
def encD (q : El) : List V := [.int .i64 (q.d : Nat)]
theorem cells6 {w : World} {L : Lv} {b o : Nat} {x : Flt} (h : RepC w L b o (cG x)) : ∃ u : V6, RepL w L (cG x) (l6 u) ∧ RepC w L b o (e6 u) := by
 obtain ⟨⟨u0, a0, b0, c0, d0⟩, ⟨u1, a1, b1, c1, d1⟩, ⟨u2, a2, b2, c2, d2⟩, ⟨u3, a3, b3, c3, d3⟩, ⟨u4, a4, b4, c4, d4⟩, ⟨u5, a5, b5, c5, d5⟩, _⟩ := h
 exact ⟨⟨u0, u1, u2, u3, u4, u5⟩, ⟨u0, _, rfl, c0, d0, u1, _, rfl, c1, d1, u2, _, rfl, c2, d2, u3, _, rfl, c3, d3, u4, _, rfl, c4, d4, u5, _, rfl, c5, d5, rfl⟩,
  ⟨u0, a0, b0, Rep.one_val c0 d0, rfl⟩, ⟨u1, a1, b1, Rep.one_val c1 d1, rfl⟩, ⟨u2, a2, b2, Rep.one_val c2 d2, rfl⟩, ⟨u3, a3, b3, Rep.one_val c3 d3, rfl⟩, ⟨u4, a4, b4, Rep.one_val c4 d4, rfl⟩, ⟨u5, a5, b5, Rep.one_val c5 d5, rfl⟩, trivial⟩
theorem kidsE {w : World} {L : Lv} {b e : Nat} (d : Nat) : ∀ (l : List Flt) (o : Nat), RepE w L b e o (l.map cF) → ∃ ks : List El, ks.map El.x = l ∧ (∀ q ∈ ks, q.d = d ∧ RepL w L (cG q.x) (l6 q.u)) ∧ RepE w L b e o ((ks.map El.u).map e6)
 | [], o, h => ⟨[], rfl, fun q hq => (by cases hq), trivial⟩
 | x :: r, o, ⟨h1, h2, h3⟩ => by
  obtain ⟨ks, k1, k2, k3⟩ := kidsE d r (o + e) h3
  rw [cG_eq] at h1 h2
  obtain ⟨u, r1, r2⟩ := cells6 h2
  refine ⟨⟨d, x, u⟩ :: ks, by rw [List.map_cons, k1], fun q hq => ?_, ⟨h1, r2, k3⟩⟩
  rcases List.mem_cons.1 hq with rfl | hq
  ·exact ⟨rfl, r1⟩
  ·exact k2 q hq
theorem kids_of {w : World} {L : Lv} (d : Nat) {l : List Flt} {v : Value} (h : Rep w L (.sl (l.map cF)) v) : ∃ ks : List El, ks.map El.x = l ∧ (∀ q ∈ ks, q.d = d ∧ RepL w L (cG q.x) (l6 q.u)) ∧ Rep w L (.sl ((ks.map El.u).map e6)) v := by
 obtain ⟨A, c, hv, hle, hne⟩ := h
 by_cases hl : l = []
 ·subst hl
  exact ⟨[], rfl, fun q hq => (by cases hq), A, c, hv, hle, fun hn => absurd rfl hn⟩
 ·obtain ⟨b, o, e, hA, hr⟩ := hne (by simpa using hl)
  obtain ⟨ks, k1, k2, k3⟩ := kidsE d l o hr
  have hlen : ((ks.map El.u).map e6).length = (l.map cF).length := by rw [← k1]; simp
  exact ⟨ks, k1, k2, A, c, by rw [hlen]; exact hv, by rw [hlen]; exact hle, fun _ => ⟨b, o, e, hA, k3⟩⟩
theorem st_lastR {s0 : List El} {q : El} {K : List V → Prop} (hK : K (encR q)) : ∃ c, (0 : Int) ≤ (s0.length : Nat) ∧ ((s0 ++ [q]).map encR)[((s0.length : Nat) : Int).toNat]? = some c ∧ c.length = 6 ∧ K c :=
 ⟨encR q, by omega, by rw [Int.toNat_natCast, List.getElem?_map, List.getElem?_append_right (Nat.le_refl _), Nat.sub_self]; rfl, rfl, hK⟩
theorem st_lastD {s0 : List El} {q : El} {K : List V → Prop} (hK : K (encD q)) : ∃ c, (0 : Int) ≤ (s0.length : Nat) ∧ ((s0 ++ [q]).map encD)[((s0.length : Nat) : Int).toNat]? = some c ∧ c.length = 1 ∧ K c :=
 ⟨encD q, by omega, by rw [Int.toNat_natCast, List.getElem?_map, List.getElem?_append_right (Nat.le_refl _), Nat.sub_self]; rfl, rfl, hK⟩
theorem st_appR {s : List El} (q : El) {K : List (List V) → Prop} (h : s.length + 1 ≤ 1000000000) (hK : K ((s ++ [q]).map encR)) : (s.map encR).length + [encR q].length ≤ 1000000000 ∧ (∀ c ∈ [encR q], c.length = 6) ∧ ∃ zs, s.map encR ++ [encR q] = zs ∧ K zs :=
 st_app (by simpa using h) (fun c hc => by rw [List.mem_singleton.1 hc]; rfl) (by rw [List.map_append]; rfl) hK
theorem st_appD {s : List El} (q : El) {K : List (List V) → Prop} (h : s.length + 1 ≤ 1000000000) (hK : K ((s ++ [q]).map encD)) : (s.map encD).length + [encD q].length ≤ 1000000000 ∧ (∀ c ∈ [encD q], c.length = 1) ∧ ∃ zs, s.map encD ++ [encD q] = zs ∧ K zs :=
 st_app (by simpa using h) (fun c hc => by rw [List.mem_singleton.1 hc]; rfl) (by rw [List.map_append]; rfl) hK
def flatS (s : List El) : List (Nat × Flt) := s.reverse.flatMap fun q => preF q.d q.x
theorem preFs_map : ∀ (l : List Flt) (d : Nat), preFs d l = l.flatMap (preF d)
 | [], _ => rfl
 | x :: r, d => by rw [preFs, List.flatMap_cons, preFs_map r d]
theorem preF_cons : ∀ (d : Nat) (x : Flt), preF d x = (d, x) :: preFs (d + 1) x.l
 | d, .mk k n v a f l => rfl
theorem flatS_snoc (s : List El) (q : El) : flatS (s ++ [q]) = (q.d, q.x) :: (preFs (q.d + 1) q.x.l ++ flatS s) := by
 unfold flatS
 rw [List.reverse_append, List.reverse_singleton, List.singleton_append, List.flatMap_cons, preF_cons]
 rfl
theorem flatS_kids (s ks : List El) (d : Nat) (l : List Flt) (h1 : ks.map El.x = l) (h2 : ∀ q ∈ ks, q.d = d) : flatS (s ++ ks.reverse) = preFs d l ++ flatS s := by
 unfold flatS
 rw [List.reverse_append, List.reverse_reverse, List.flatMap_append, preFs_map, ← h1]
 congr 1
 clear h1
 induction ks with
 | nil => rfl
 | cons q r ih =>
  rw [List.flatMap_cons, List.map_cons, List.flatMap_cons, ih (fun q' hq => h2 q' (by simp [hq])), h2 q (by simp)]
theorem flatS_len : ∀ s : List El, s.length ≤ (flatS s).length := fun s => by
 have : ∀ t : List El, t.length ≤ (t.flatMap fun q => preF q.d q.x).length := by
  intro t
  induction t with
  | nil => exact Nat.le_refl _
  | cons q r ih => rw [List.flatMap_cons, List.length_append, preF_cons, List.length_cons, List.length_cons]; omega
 unfold flatS
 have h := this s.reverse
 rwa [List.length_reverse] at h
theorem pre_le : ∀ (ks : List El) (d : Nat), ∀ q ∈ ks, (preF d q.x).length ≤ ((ks.map El.x).flatMap (preF d)).length
 | [], _, q, hq => by cases hq
 | k :: r, d, q, hq => by
  rw [List.map_cons, List.flatMap_cons, List.length_append]
  rcases List.mem_cons.1 hq with rfl | hq
  ·omega
  ·have := pre_le r d q hq; omega
theorem bwK_get (ks : List El) (j : Nat) (hj : j < ks.length) : (bwY (ks.map El.u))[j]? = some [.int .i64 ((ks.length - 1 - j : Nat) : Int), .agg (e6 (ks.reverse[j]'(by simpa using hj)).u)] := by
 unfold bwY
 rw [List.getElem?_map, List.getElem?_reverse (by rw [List.length_zipIdx, List.length_map]; exact hj), List.length_zipIdx, List.length_map, List.getElem?_zipIdx, List.getElem?_map, List.getElem?_eq_getElem (show ks.length - 1 - j < ks.length by omega), List.getElem_reverse]
 simp
def preY (f : Flt) : List (List V) := (preF 1 f).map fun q => [.int .i64 (q.1 : Nat), .agg (cG q.2)]
theorem known_args {k : Ky} {d : Nat} {x : Flt} {u : V6} (h : RepL k.w0 k.L0 (cG x) (l6 u)) (us : List Value) (hu : RepW k.w0 k.L0 [.int .i64 (d : Nat), .agg (e6 u)] us) : RepW k.w0 k.L0 [.int .i64 (d : Nat), .agg (cG x)] us := by
 obtain ⟨v1, us1, rfl, h1, v2, us2, rfl, ⟨cs, rfl, hc⟩, h3⟩ := hu
 obtain ⟨a0, t0, e0, _, r0, a1, t1, rfl, _, r1, a2, t2, rfl, _, r2, a3, t3, rfl, _, r3, a4, t4, rfl, _, r4, a5, t5, rfl, _, r5, r6⟩ := hc
 rw [show a0 = u.a from r0, show a1 = u.b from r1, show a2 = u.c from r2, show a3 = u.d from r3, show a4 = u.e from r4, show a5 = u.f from r5, show t5 = [] from r6] at e0
 exact ⟨_, _, rfl, h1, _, _, rfl, ⟨cs, rfl, by rw [e0]; exact h⟩, h3⟩
set_option maxHeartbeats 4000000 in
theorem filters_it (f : Flt) (hN : (preF 1 f).length ≤ 900000000) : It Tryz.prog X 67 [.ro (cG f)] (preY f) := by
 refine it_prog (tab_sub tabOk) mixed Tryz.f67 Tryz.func67 (by kernel_rfl) (by kernel_rfl) (by kernel_rfl) fun k cvs hE hL0 hcv => ?_
 obtain ⟨v0, rfl, b, o, rfl, hcell⟩ := one_arg hcv
 obtain ⟨u, hu1, hu2⟩ := cells6 hcell
 refine ⟨[.ro (e6 u)], ⟨_, _, rfl, ⟨b, o, rfl, hu2⟩, rfl⟩, rfl, by kernel_rfl, ?_⟩
 conv => whnf
 refine ⟨[], trivial, rfl, Nat × List El, fun z => ⟨52, [(0, .v (.raw (.func (.yield k.l0) #[] #[]))), (3, .ptr 3 0), (4, .ptr 4 0)], [(3, [.own 11 25 (z.2.map encR)]), (4, [.own 12 3 (z.2.map encD)])], [(11, some 25), (12, some 3)]⟩, fun z => some z.1, fun z => z.1 ≤ (preF 1 f).length ∧ (preF 1 f).drop z.1 = flatS z.2 ∧ ∀ q ∈ z.2, q.d + (preF q.d q.x).length ≤ 1000000000 ∧ RepL k.w0 k.L0 (cG q.x) (l6 q.u), fun z => (preF 1 f).length - z.1, ⟨(0, [⟨1, f, u⟩]), [(11, some 11), (12, some 12)], ⟨Nat.zero_le _, by rw [List.drop_zero]; simp [flatS], fun q hq => by rw [List.mem_singleton.1 hq]; exact ⟨by dsimp only; omega, hu1⟩⟩, rfl, ?_⟩, fun z ⟨hz1, hz2, hz3⟩ => ?_⟩
 ·(focus (repeat' first|exact trivial|exact rfl|exact .inl rfl|exact .inr ⟨rfl,rfl⟩|refine And.intro ?_ ?_))
 obtain ⟨i, s⟩ := z
 dsimp only at hz1 hz2 hz3
 have hsl : s.length ≤ 900000000 := by
  have h1 := flatS_len s
  rw [← hz2, List.length_drop] at h1
  omega
 conv => whnf
 refine ⟨rfl, cmp_split (fun h => ?_) (fun h => ?_)⟩
 rotate_left
 ·conv => whnf
  have hs0 : s = [] := by
   cases s with
   | nil => rfl
   | cons a r => exact absurd h (by simp)
  subst hs0
  have hd0 : (preF 1 f).drop i = [] := hz2
  have : (preF 1 f).length ≤ i := List.drop_eq_nil_iff.1 hd0
  exact .inl (by rw [show (preY f).length = i from by unfold preY; rw [List.length_map]; omega])
 rcases List.eq_nil_or_concat s with rfl | ⟨s0, q, hsq⟩
 ·exact absurd h (by simp)
 rw [List.concat_eq_append] at hsq
 subst hsq
 rw [flatS_snoc] at hz2
 obtain ⟨hqd, hqu⟩ := hz3 q (by simp)
 rw [preF_cons, List.length_cons] at hqd
 have hlast : ((s0 ++ [q]).map encR).length - 1 = s0.length := by simp
 have hkids : Rep k.w0 k.L0 (.sl (q.x.l.map cF)) q.u.f := by
  obtain ⟨a0, t0, e0, _, r0, a1, t1, rfl, _, r1, a2, t2, rfl, _, r2, a3, t3, rfl, _, r3, a4, t4, rfl, _, r4, a5, t5, rfl, _, r5, r6⟩ := hqu
  unfold l6 at e0
  injection e0 with _ e0
  injection e0 with _ e0
  injection e0 with _ e0
  injection e0 with _ e0
  injection e0 with _ e0
  injection e0 with e0 _
  rw [e0]; exact r5
 obtain ⟨ks, hk1, hk2, hk3⟩ := kids_of (q.d + 1) hkids
 have hil : i < (preF 1 f).length := by
  rcases Nat.lt_or_ge i (preF 1 f).length with h1 | h1
  ·exact h1
  ·rw [List.drop_eq_nil_of_le h1] at hz2; cases hz2
 have hyi : (preY f)[i]? = some [.int .i64 (q.d : Nat), .agg (cG q.x)] := by
  unfold preY
  rw [List.getElem?_map, ← List.head?_drop, hz2]
  rfl
 have hdrop : (preF 1 f).drop (i + 1) = flatS (s0 ++ ks.reverse) := by
  rw [flatS_kids s0 ks (q.d + 1) q.x.l hk1 (fun q' hq' => (hk2 q' hq').1), ← List.drop_drop, hz2]
  rfl
 have hkn : ks.length ≤ 900000000 ∧ s0.length + ks.length ≤ 900000000 := by
  have h1 := flatS_len (s0 ++ ks.reverse)
  rw [← hdrop, List.length_drop, List.length_append, List.length_reverse] at h1
  omega
 conv => whnf
 refine st_minus ((s0 ++ [q]).map encR).length 1 (by simp) (by simp; omega) ?_
 rw [hlast]
 conv => whnf
 (refine ⟨some [9999], by kernel_rfl, ⟨(.one 0 (.one 1 (.one 2 (.one 3 (.one 5 (.or (.or (.one 4 (.one 6 (.one 3007 (.or (.one 8 (.one 9 (.one 10 (.one 11 .nil)))) (.one 9 (.one 8 (.one 10 (.one 11 .nil)))))))) (.one 8 (.or (.one 4 (.one 6 (.one 3007 (.one 9 (.one 10 (.one 11 .nil)))))) (.one 9 (.or (.one 4 (.one 6 (.one 3007 (.one 10 (.one 11 .nil))))) (.one 10 (.one 4 (.one 6 (.one 7 (.one 11 .nil)))))))))) (.one 9 (.or (.one 4 (.one 6 (.one 3007 (.one 8 (.one 10 (.one 11 .nil)))))) (.one 8 (.or (.one 4 (.one 6 (.one 3007 (.one 10 (.one 11 .nil))))) (.one 10 (.one 4 (.one 6 (.one 7 (.one 11 .nil))))))))))))))), by kernel_rfl, ?_, ?_, ?_⟩⟩; rotate_left; (focus ((conv => whnf); (repeat' (first | ((refine st_lastR ?_) <;> (conv => whnf)) | ((refine st_lastD ?_) <;> (conv => whnf)) | ((refine And.intro ?_ ?_) <;> (conv => whnf)) | (exact St.le_refl _) | (refine ⟨rfl, ?_, ?_, ?_⟩ <;> (repeat' (first | exact trivial | (refine ⟨rfl, ?_⟩))); done) | fail))))); conv => whnf
 refine ⟨some [0, 1, 2, 4, 1003, 5, 6, 7], by kernel_rfl, ?_⟩; conv => whnf
 refine ⟨s0.length, rfl, by simp, ?_⟩
 conv => whnf
 refine ⟨s0.length, rfl, by simp, ?_⟩
 conv => whnf
 refine ⟨33, _, _, [(11, (25, s0.length, (s0 ++ [q]).map encR)), (12, (3, s0.length, (s0 ++ [q]).map encD))], ⟨52, [(0, .v (.raw (.func (.yield k.l0) #[] #[]))), (3, .ptr 3 0), (4, .ptr 4 0), (6, .ptr 6 0), (7, .ptr 7 0)], [(3, [.own 11 25 (s0.map encR)]), (4, [.own 12 3 (s0.map encD)]), (6, [.v (.raw q.u.a), .v (.raw q.u.b), .v (.raw q.u.c), .v (.raw q.u.d), .v (.raw q.u.e), .v (.sl ((ks.map El.u).map e6))]), (7, [.v (.int .i64 (q.d : Nat))])], [(11, some 25), (12, some 3)]⟩, rfl, rfl, rfl, hyi, .inr ⟨rfl, known_args hqu⟩, ⟨rfl, ?_, ?_, ?_, rfl⟩, ?_, ?_⟩
 ·exact ⟨.inl ⟨rfl, .inl rfl⟩, .inl ⟨rfl, rfl⟩, .inl ⟨rfl, rfl⟩, .inl ⟨rfl, rfl⟩, .inl ⟨rfl, rfl⟩, trivial⟩
 ·refine ⟨⟨_, rfl, ⟨rfl, _, rfl, by simp⟩, trivial⟩, ⟨_, rfl, ⟨rfl, _, rfl, by simp⟩, trivial⟩, ⟨_, rfl, ⟨rfl, .inl rfl⟩, ⟨rfl, .inl rfl⟩, ⟨rfl, .inl rfl⟩, ⟨rfl, .inl rfl⟩, ⟨rfl, .inl rfl⟩, ⟨rfl, .inr fun v hv => ?_⟩, trivial⟩, ⟨_, rfl, ⟨rfl, .inl rfl⟩, trivial⟩, trivial⟩
  rw [show v = q.u.f from hv]; exact hk3
 ·refine ⟨⟨rfl, ⟨27, rfl⟩, by simp, fun c hc => ?_⟩, ⟨rfl, ⟨30, rfl⟩, by simp, fun c hc => ?_⟩, trivial⟩
  ·obtain ⟨z, _, rfl⟩ := List.mem_map.1 hc; rfl
  ·obtain ⟨z, _, rfl⟩ := List.mem_map.1 hc; rfl
 rotate_left
 ·conv => whnf
  exact .inr rfl
 conv => whnf
 refine st_call (backward_fn ((ks.map El.u).map e6)) ⟨.inl rfl, trivial⟩ rfl rfl ?_
 conv => whnf
 have hby : (bwY (ks.map El.u)).length = ks.length := by unfold bwY; simp
 refine ⟨_, _, fun j => ⟨52, [(0, .v (.raw (.func (.yield k.l0) #[] #[]))), (3, .ptr 3 0), (4, .ptr 4 0), (7, .ptr 7 0)], [(3, [.own 11 25 ((s0 ++ ks.reverse.take j).map encR)]), (4, [.own 12 3 ((s0 ++ ks.reverse.take j).map encD)]), (7, [.v (.int .i64 (q.d : Nat))])], [(11, some 25), (12, some 3)]⟩, fun j => j ≤ ks.length, backward_it (ks.map El.u) (by simp; omega), ⟨rfl, trivial⟩, rfl, ⟨Nat.zero_le _, [(11, some 11), (12, some 12)], ?_⟩, fun j => rfl, (show ∀ p ∈ [41, 42], p < 52 by decide), fun j v hv hj => ?_, fun hj => ?_⟩
 ·dsimp only
  rw [List.take_zero, List.append_nil]
  (focus (repeat' first|exact trivial|exact rfl|exact .inl rfl|exact .inr ⟨rfl,rfl⟩|refine And.intro ?_ ?_))
 ·have hjl : j < ks.length := by
   have := (List.getElem?_eq_some_iff.1 hv).1
   omega
  have hrl : j < ks.reverse.length := by rw [List.length_reverse]; exact hjl
  have hy := bwK_get ks j hjl
  rw [hv] at hy
  injection hy with hy
  subst hy
  have hmem : ks.reverse[j]'hrl ∈ ks := List.mem_reverse.1 (List.getElem_mem hrl)
  obtain ⟨hd1, hd2⟩ := hk2 _ hmem
  have htk : s0 ++ ks.reverse.take j ++ [ks.reverse[j]'hrl] = s0 ++ ks.reverse.take (j + 1) := by
   rw [List.append_assoc, List.take_succ_eq_append_getElem hrl]
  generalize ks.reverse[j]'hrl = r at *
  refine ⟨rfl, ?_⟩
  conv => whnf
  have hln : (s0 ++ ks.reverse.take j).length + 1 ≤ 1000000000 := by
   rw [List.length_append, List.length_take]; omega
  have hrd : (r.d : Int) = ((q.d + 1 : Nat) : Int) := by rw [hd1]
  (refine ⟨some [9999], by kernel_rfl, ⟨(.one 0 (.one 1 (.one 1004 (.one 1005 (.one 6 (.or (.one 2 (.or (.one 3 (.one 7 (.one 8 (.one 9 (.one 10 .nil))))) (.one 7 (.one 3 (.one 8 (.one 9 (.one 10 .nil))))))) (.one 7 (.one 2 (.one 3 (.one 8 (.one 9 (.one 10 .nil)))))))))))), by kernel_rfl, ?_, ?_, ?_⟩⟩; rotate_left; (focus ((conv => whnf); (repeat' (first | ((refine st_appR r hln ?_) <;> (conv => whnf)) | ((refine ⟨rfl, st_succ (by omega) ?_⟩) <;> (conv => whnf)) | (((show (List.map encD (s0 ++ List.take j ks.reverse)).length + [[V.int IntKind.i64 ((q.d + 1 : Nat) : Int)]].length ≤ 1000000000 ∧ _; rw [← hrd]; refine st_appD r hln ?_)) <;> (conv => whnf)) | ((refine And.intro ?_ ?_) <;> (conv => whnf)) | (exact St.le_refl _) | (refine ⟨rfl, ?_, ?_, ?_⟩ <;> (repeat' (first | exact trivial | (refine ⟨rfl, ?_⟩))); done) | fail))))); conv => whnf
  refine ⟨by dsimp only; omega, [(11, some 46), (12, some 51)], ?_⟩
  dsimp only
  rw [← htk]
  (focus (repeat' first|exact trivial|exact rfl|exact .inl rfl|exact .inr ⟨rfl,rfl⟩|refine And.intro ?_ ?_))
 ·conv => whnf
  rw [hby]
  have htake : ks.reverse.take ks.length = ks.reverse := by rw [← List.length_reverse, List.take_length]
  refine ⟨(i + 1, s0 ++ ks.reverse), [(11, some 11), (12, some 12)], ⟨hil, hdrop, fun q' hq' => ?_⟩, rfl, by dsimp only; omega, ?_⟩
  ·rcases List.mem_append.1 hq' with hq' | hq'
   ·exact hz3 q' (by simp [hq'])
   ·obtain ⟨h1, h2⟩ := hk2 q' (List.mem_reverse.1 hq')
    refine ⟨?_, h2⟩
    have h3 : (preF q'.d q'.x).length ≤ (preFs (q.d + 1) q.x.l).length := by
     rw [preFs_map, ← hk1, h1]
     exact pre_le ks (q.d + 1) q' (List.mem_reverse.1 hq')
    omega
  ·dsimp only
   rw [htake]
   (focus (repeat' first|exact trivial|exact rfl|exact .inl rfl|exact .inr ⟨rfl,rfl⟩|refine And.intro ?_ ?_))
end Go.Proofs.YtiafggoaedifdaaGreatDoor.Fi
/- filt, walked: which filters are right, their names. Conditions: at most 5 * 10^8 filters in one, texts of at most 10^8 bytes. -/
namespace Go.Proofs.YtiafggoaedifdaaGreatDoor.Fi
open Go.RowKit Go.Shelf Go.Lib Fl
set_option linter.unusedVariables false
theorem filters_fn {X : En} (f : Flt) : Fn Tryz.prog X 43 [.v (.agg (cG f))] (.fn 67 [.ro (cG f)]) := by
 refine fnP_prog tabOk mixed Tryz.f43 Tryz.func43 (by kernel_rfl) (by kernel_rfl) (by kernel_rfl) ?_
 conv => whnf
 exact ⟨rfl, ⟨_, rfl, rfl⟩, trivial⟩
mutual
theorem mid_pre : ∀ (d : Nat) (f : Flt), midF f → ∀ q ∈ preF d f, midF q.2
 | d, .mk k n v a fi l, h, q, hq => by
  rw [preF] at hq
  rcases List.mem_cons.1 hq with rfl | hq
  ·exact h
  ·exact mids_pre (d + 1) l h.2.2.2.2.2 q hq
theorem mids_pre : ∀ (d : Nat) (l : List Flt), midFs l → ∀ q ∈ preFs d l, midF q.2
 | _, [], _, q, hq => by cases hq
 | d, x :: r, h, q, hq => by
  rw [preFs] at hq
  rcases List.mem_append.1 hq with hq | hq
  ·exact mid_pre d x h.1 q hq
  ·exact mids_pre d r h.2 q hq
end
variable (p : Nat → Addr)
def okQ (q : Nat × Flt) : Bool := decide (q.1 ≤ 6) && oneB q.2
theorem pre_get (f : Flt) {j : Nat} {v : List V} (h : (preY f)[j]? = some v) : ∃ hj : j < (preF 1 f).length, v = [.int .i64 (((preF 1 f)[j]).1 : Nat), .agg (cG ((preF 1 f)[j]).2)] := by
 unfold preY at h
 rw [List.getElem?_map] at h
 obtain ⟨q, hq, rfl⟩ := Option.map_eq_some_iff.1 h
 obtain ⟨hj, rfl⟩ := List.getElem?_eq_some_iff.1 hq
 exact ⟨hj, rfl⟩
set_option maxHeartbeats 4000000 in
theorem right_fn (f : Flt) (hf : midF f) (hN : (preF 1 f).length ≤ 900000000) : Fn Tryz.prog (envX p) 22 [.v (.agg (cG f))] (.v (.bool (rightF 1 f))) := by
 have hall : rightF 1 f = (preF 1 f).all okQ := right_pre 1 f
 have hpl : (preY f).length = (preF 1 f).length := by unfold preY; rw [List.length_map]
 refine fn_prog tabOk mixed Tryz.f22 Tryz.func22 (by kernel_rfl) (by kernel_rfl) ?_
 conv => whnf
 (refine st_call (filters_fn (X := envX p) f) ?_ rfl rfl ?_; (focus (repeat' first|exact trivial|exact rfl|exact .inl rfl|exact .inr ⟨rfl,rfl⟩|refine And.intro ?_ ?_)); conv => whnf)
 refine ⟨_, _, fun j => ⟨16, [(2, .ptr 2 0)], [(2, [.v (.bool false)])], []⟩, fun j => j ≤ (preF 1 f).length ∧ ((preF 1 f).take j).all okQ = true, filters_it f hN, ⟨rfl, trivial⟩, rfl, ⟨⟨Nat.zero_le _, rfl⟩, [], ?_⟩, fun j => rfl, (show ∀ q ∈ [7, 8], q < 16 by decide), fun j v hv ⟨hj, ha⟩ => ?_, fun ⟨hj, ha⟩ => ?_⟩
 ·(focus (repeat' first|exact trivial|exact rfl|exact .inl rfl|exact .inr ⟨rfl,rfl⟩|refine And.intro ?_ ?_))
 ·obtain ⟨hjl, rfl⟩ := pre_get f hv
  have hmid := mid_pre 1 f hf _ (List.getElem_mem hjl)
  have hts := all_take_succ okQ (preF 1 f) j hjl
  have hbad := fun h => all_bad (f := okQ) hjl h
  generalize (preF 1 f)[j] = q at *
  obtain ⟨d, x⟩ := q
  dsimp only at hmid ⊢
  refine ⟨rfl, ?_⟩
  conv => whnf
  refine ⟨rfl, cmp_split (fun h => ?_) (fun h => ?_)⟩
  ·conv => whnf
   refine ⟨[], ⟨16, [(2, .ptr 2 0)], [(2, [.v (.bool false)])], []⟩, by (focus (repeat' first|exact trivial|exact rfl|exact .inl rfl|exact .inr ⟨rfl,rfl⟩|refine And.intro ?_ ?_)), rfl, ?_⟩
   conv => whnf
   exact ⟨.inl (congrArg V.bool (hall.trans (hbad (by unfold okQ; rw [decide_eq_false (by dsimp only; omega)]; rfl))).symm), rfl⟩
  ·conv => whnf
   refine st_callB (oneG_fn p x hmid) ⟨.inl rfl, trivial⟩ rfl (fun h2 => ?_) (fun h2 => ?_)
   ·conv => whnf
    refine ⟨⟨hjl, by rw [hts, ha]; unfold okQ; rw [decide_eq_true (by dsimp only; omega), h2]; rfl⟩, [], ?_⟩
    (focus (repeat' first|exact trivial|exact rfl|exact .inl rfl|exact .inr ⟨rfl,rfl⟩|refine And.intro ?_ ?_))
   ·conv => whnf
    refine ⟨[], ⟨16, [(2, .ptr 2 0)], [(2, [.v (.bool false)])], []⟩, by (focus (repeat' first|exact trivial|exact rfl|exact .inl rfl|exact .inr ⟨rfl,rfl⟩|refine And.intro ?_ ?_)), rfl, ?_⟩
    conv => whnf
    exact ⟨.inl (congrArg V.bool (hall.trans (hbad (by unfold okQ; rw [h2, Bool.and_false]))).symm), rfl⟩
 ·conv => whnf
  rw [hpl, List.take_length] at ha
  exact ⟨.inl (congrArg V.bool (hall.trans ha).symm), rfl⟩
theorem filterMap_take_succ {α β : Type} (g : α → Option β) (l : List α) (i : Nat) (h : i < l.length) : (l.take (i + 1)).filterMap g = (l.take i).filterMap g ++ (g l[i]).toList := by
 rw [List.take_succ_eq_append_getElem h, List.filterMap_append]
 have : [l[i]].filterMap g = (g l[i]).toList := by
  rw [List.filterMap_cons]
  cases g l[i] <;> rfl
 rw [this]
set_option maxHeartbeats 4000000 in
theorem names_fn (f : Flt) (hf : midF f) (hN : (preF 1 f).length ≤ 900000000) : Fn Tryz.prog (envX p) 24 [.v (.agg (cG f))] (.v (.sl ((namesF f).map encS))) := by
 have hpl : (preY f).length = (preF 1 f).length := by unfold preY; rw [List.length_map]
 refine fn_prog tabOk mixed Tryz.f24 Tryz.func24 (by kernel_rfl) (by kernel_rfl) ?_
 conv => whnf
 refine st_callB (right_fn p f hf hN) ⟨.inl rfl, trivial⟩ rfl (fun hR => ?_) (fun hR => ?_)
 rotate_left
 ·conv => whnf
  have : namesF f = [] := by unfold namesF; rw [if_neg (by rw [hR]; decide)]
  rw [this]
  exact ⟨.inr ⟨rfl, rfl⟩, rfl⟩
 have hnm : namesF f = (preF 1 f).filterMap nmOf := by unfold namesF; rw [if_pos hR, nm_pre 1 f]
 conv => whnf
 (refine st_call (filters_fn (X := envX p) f) ?_ rfl rfl ?_; (focus (repeat' first|exact trivial|exact rfl|exact .inl rfl|exact .inr ⟨rfl,rfl⟩|refine And.intro ?_ ?_)); conv => whnf)
 refine ⟨_, _, fun j => ⟨22, [(3, .ptr 3 0)], [(3, [.own 3 9 ((((preF 1 f).take j).filterMap nmOf).map encS)])], [(3, some 9)]⟩, fun j => j ≤ (preF 1 f).length, filters_it f hN, ⟨rfl, trivial⟩, rfl, ⟨Nat.zero_le _, [(3, none)], ?_⟩, fun j => rfl, (show ∀ q ∈ [11, 12], q < 22 by decide), fun j v hv hj => ?_, fun hj => ?_⟩
 ·(focus (repeat' first|exact trivial|exact rfl|exact .inl rfl|exact .inr ⟨rfl,rfl⟩|refine And.intro ?_ ?_))
 ·obtain ⟨hjl, rfl⟩ := pre_get f hv
  have hts := filterMap_take_succ nmOf (preF 1 f) j hjl
  have hlen : (((preF 1 f).take j).filterMap nmOf).length ≤ j := Nat.le_trans (List.length_filterMap_le _ _) (by rw [List.length_take]; omega)
  generalize (preF 1 f)[j] = q at *
  obtain ⟨d, x⟩ := q
  refine ⟨rfl, ?_⟩
  conv => whnf
  generalize ((preF 1 f).take j).filterMap nmOf = l0 at *
  refine cmp_split (fun h => ?_) (fun h => ?_)
  ·have hno : nmOf (d, x) = some x.name := by
    unfold nmOf
    rw [if_neg (fun e => h (size0.1 e))]
   rw [hno] at hts
   conv => whnf
   refine st_app (by rw [List.length_map]; simp; omega) (by intro c hc; simp at hc; rw [hc]; rfl) (zs := (l0 ++ [x.name]).map encS) (by rw [List.map_append]; rfl) ?_
   conv => whnf
   refine ⟨hjl, [(3, some 20)], ?_⟩
   dsimp only
   rw [hts]
   (focus (repeat' first|exact trivial|exact rfl|exact .inl rfl|exact .inr ⟨rfl,rfl⟩|refine And.intro ?_ ?_))
  ·have hno : nmOf (d, x) = none := by
    unfold nmOf
    rw [if_pos (by rw [Classical.not_not.1 h]; rfl)]
   rw [hno] at hts
   conv => whnf
   refine ⟨hjl, [(3, some 3)], ?_⟩
   dsimp only
   rw [hts]
   show Wk _ _ ⟨22, [(3, .ptr 3 0)], [(3, [.own 3 9 ((l0 ++ []).map encS)])], [(3, some 9)]⟩
   rw [List.append_nil]
   (focus (repeat' first|exact trivial|exact rfl|exact .inl rfl|exact .inr ⟨rfl,rfl⟩|refine And.intro ?_ ?_))
 ·conv => whnf
  rw [hpl, List.take_length, ← hnm]
  exact ⟨rfl, rfl⟩
end Go.Proofs.YtiafggoaedifdaaGreatDoor.Fi
