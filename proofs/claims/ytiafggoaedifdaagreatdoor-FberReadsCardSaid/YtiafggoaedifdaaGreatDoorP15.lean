/- Several texts, one behind the other. The walk without memory: a function's contract out of the walk of its body. Whatever program. The walk without memory: the program's types, asked by one reckoning. Whatever program. The walk without memory: its steps. The walk without memory: steps with numbers. Whatever program. The walk without memory: the contract of a function that gets pointers to variables, out of the walk of its body. Whatever program. -/
import Derived.Test.YtiafggoaedifdaaGreatDoorP14
import Derived.IntWalk
/- The walk without memory: a function's contract out of the walk of its body. Whatever program. -/
namespace Go.Proofs.YtiafggoaedifdaaGreatDoor
open Go.RowKit
set_option linter.unusedVariables false
variable {P : Program} {X : En} {tb : Tab}
def argsE : Nat → List T → List (Nat × T)
 | _, [] => []
 | i, t :: r => (i, t) :: argsE (i + 1) r
def St.head (n : Nat) (args : List T) : St := { n := n, env := argsE 0 args, bs := [], lv := [] }
def resT (tb : Tab) (st : St) : ResultVar → Option T
 | .tmp t => some (tget st.env t)
 | .cell x t => match lk t tb.siz with
  | some q => match tget st.env x with
   | .ptr i o => match lk i st.bs with
    | some cs => match q.2 with
     | true => match toVs ((cs.drop o).take q.1) with
      | some l => match Nat.beq l.length q.1 with
       | true => some (.v (.agg l))
       | false => none
      | none => none
     | false => cs[o]?
    | none => none
   | _ => none
  | none => none
def resTs (tb : Tab) (st : St) : List ResultVar → Option (List T)
 | [] => some []
 | x :: r => match resT tb st x with
  | some t => match resTs tb st r with
   | some ts => some (t :: ts)
   | none => none
  | none => none
def resOk (ts : List T) (r : T) : Prop := match ts with
 | [t] => LeT t r ∧ r.pure = true
 | ts => match r with
  | .tup l => LeTs ts l ∧ T.pures l = true
  | _ => False
def endQ (tb : Tab) (rs : List ResultVar) (r : T) : Exit → St → Prop
 | .normal, st => match resTs tb st rs with
  | some ts => resOk ts r
  | none => False
 | .ret, st => match resTs tb st rs with
  | some ts => resOk ts r
  | none => False
 | _, _ => False
theorem resT_rep (hT : TabOk P tb) {base : Nat} {S : Nat → Prop} {st : St} {a : Act} {w : World} {g : Gh} (hd : Hd P X base S st a w g) {x : ResultVar} {t : T} (h : resT tb st x = some t) :
  ∃ v, ((match x with | .tmp t => pure (a.tmps.getD t undef) | .cell y t => do loadVar t (← asAddr (a.tmps.getD y undef))) : Sem Value).run P w = .ok v w ∧ RepT P w g t v := by
 cases x with
 | tmp s => cases h; exact ⟨_, rfl, hd.env s⟩
 | cell y s =>
  unfold resT at h
  dsimp only at h
  split at h <;> try cases h
  rename_i q hq
  obtain ⟨s1, s2, s3, s4, s5, s6⟩ := hT.siz hq
  split at h <;> try cases h
  rename_i i of hx
  have hev := hd.env y
  rw [hx] at hev
  have hev' : a.tmps.getD y undef = .pointer (some ⟨(g.ρ i).1, (g.ρ i).2 + of, none⟩) := hev
  split at h <;> try cases h
  rename_i cs hcs
  obtain ⟨us, u1, u2, u3⟩ := hd.mm.vals hcs
  split at h
  ·rename_i hag
   split at h <;> try cases h
   rename_i l hl
   split at h <;> try cases h
   rename_i hlen
   have hlen' : l.length = q.1 := Nat.eq_of_beq_eq_true hlen
   have hrep : RepL w g.L l ((us.drop of).take q.1) := toVs_rep (P := P) hl (by rw [List.length_take, List.length_drop, List.length_take, List.length_drop, u1]) fun j t' hj => by
    rw [List.getElem?_take] at hj ⊢
    split at hj
    ·rw [List.getElem?_drop] at hj ⊢
     rw [if_pos (by assumption)]
     exact u2 _ _ hj
    ·cases hj
   refine ⟨.agg ((us.drop of).take q.1).toArray, ?_, ⟨_, rfl, by simpa using hrep⟩⟩
   dsimp only
   rw [hev']
   simp only [Sem.run_bind, asAddr, Sem.run_pure, Result.andThen_ok]
   exact run_loadVar_agg s1 s3 (s4.trans hag) (cs := (us.drop of).take q.1) (by rw [s2, hrep.length, hlen']) fun j u hu => by
    rw [List.getElem?_take] at hu
    split at hu
    ·rw [List.getElem?_drop] at hu
     have := u3 _ u hu
     rwa [Nat.add_assoc]
    ·cases hu
  ·rename_i hag
   obtain ⟨u, hu, hr, _⟩ := u2 _ _ h
   refine ⟨u, ?_, hr⟩
   dsimp only
   rw [hev']
   simp only [Sem.run_bind, asAddr, Sem.run_pure, Result.andThen_ok]
   exact run_loadVar_one s3 (s4.trans hag) (u3 _ _ hu)
theorem resTs_rep (hT : TabOk P tb) {base : Nat} {S : Nat → Prop} {st : St} {a : Act} {w : World} {g : Gh} (hd : Hd P X base S st a w g) : ∀ {rs : List ResultVar} {ts : List T}, resTs tb st rs = some ts →
  ∃ vs, (rs.mapM (fun x => (match x with | .tmp t => pure (a.tmps.getD t undef) | .cell y t => do loadVar t (← asAddr (a.tmps.getD y undef)) : Sem Value))).run P w = .ok vs w ∧ RepTs P w g ts vs
 | [], ts, h => by cases h; exact ⟨[], rfl, rfl⟩
 | x :: r, ts, h => by
  unfold resTs at h
  split at h <;> try cases h
  rename_i t ht
  split at h <;> try cases h
  rename_i ts' hts
  obtain ⟨v, hv, hr⟩ := resT_rep hT hd ht
  obtain ⟨vs, hvs, hrs⟩ := resTs_rep hT hd hts
  refine ⟨v :: vs, ?_, ⟨v, vs, rfl, hr, hrs⟩⟩
  rw [List.mapM_cons]
  simp only [Sem.run_bind, hv, hvs, Result.andThen_ok, Sem.run_pure]
theorem results_run (hT : TabOk P tb) {base : Nat} {S : Nat → Prop} {st : St} {a : Act} {w : World} {g : Gh} (hd : Hd P X base S st a w g) {fn : Func} {r : T} {ts : List T} (h : resTs tb st fn.results.toList = some ts) (ho : resOk ts r) : ∃ v, (results fn a.tmps).run P w = .ok v w ∧ RepT P w g r v ∧ r.pure = true := by
 obtain ⟨vs, h1, h2⟩ := resTs_rep hT hd h
 have hrun : (fn.results.mapM (fun x => (match x with | .tmp t => pure (a.tmps.getD t undef) | .cell y t => do loadVar t (← asAddr (a.tmps.getD y undef)) : Sem Value))).run P w = .ok vs.toArray w := by
  rw [Array.mapM_eq_mapM_toList]
  simp only [Sem.run_map, h1, Result.andThen_ok]
 have hl := h2.length
 have hres : (results fn a.tmps).run P w = ((fn.results.mapM (fun x => (match x with | .tmp t => pure (a.tmps.getD t undef) | .cell y t => do loadVar t (← asAddr (a.tmps.getD y undef)) : Sem Value))).run P w).andThen fun vs w' => ((pure (if h : vs.size = 1 then vs[0] else .tuple vs)) : Sem Value).run P w' := by
  unfold results
  rw [Sem.run_bind]
  rfl
 by_cases h3 : ∃ t, ts = [t]
 ·obtain ⟨t, rfl⟩ := h3
  obtain ⟨v, us, rfl, r1, r2⟩ := h2
  obtain rfl : us = [] := r2
  exact ⟨v, by rw [hres, hrun]; rfl, LeT.rep _ _ _ ho.1 r1, ho.2⟩
 ·have hne : vs.toArray.size ≠ 1 := fun e => h3 (by
   rw [List.size_toArray, hl] at e
   match ts, e with
   | [t], _ => exact ⟨t, rfl⟩)
  refine ⟨.tuple vs.toArray, by rw [hres, hrun, Result.andThen_ok, dif_neg hne]; rfl, ?_⟩
  unfold resOk at ho
  split at ho
  ·rename_i t; exact absurd ⟨t, rfl⟩ h3
  ·split at ho
   ·rename_i l
    exact ⟨⟨_, rfl, LeTs.rep _ _ _ ho.1 h2⟩, ho.2⟩
   ·exact ho.elim
theorem argsE_get {w : World} {g : Gh} : ∀ {args : List T} {vs : List Value} (k t : Nat), RepTs P w g args vs → RepT P w g (tget (argsE k args) t) (if t < k then undef else vs.getD (t - k) undef)
 | [], _, k, t, h => by rw [show _ = [] from h]; trivial
 | x :: r, _, k, t, ⟨u, us, e, h1, h2⟩ => by
  subst e
  unfold tget
  rw [argsE]
  by_cases hk : t = k
  ·subst hk
   rw [lk_cons_eq, if_neg (Nat.lt_irrefl _)]
   simpa using h1
  ·rw [lk_cons_ne _ _ hk]
   have ih := argsE_get (k + 1) t h2
   unfold tget at ih
   by_cases hlt : t < k
   ·rw [if_pos hlt]
    rw [if_pos (by omega)] at ih
    exact ih
   ·rw [if_neg hlt]
    rw [if_neg (by omega)] at ih
    rwa [show (u :: us).getD (t - k) undef = us.getD (t - (k + 1)) undef by
     rw [show t - k = (t - (k + 1)) + 1 by omega]; simp]
theorem Hd.putObj {base : Nat} {S : Nat → Prop} {st : St} {a' : Act} {W : World} {g' : Gh} {l : Nat} (o : Obj) (h : Hd P X base S st a' W g') {o0 : Obj} (hr : W.heap[l]? = some o0) (hc0 : o0.isCells = false) (hm0 : isMapO o0 = false) (hE : ¬ X.Eb l) : Hd P X base S st a' (W.putObj l o) g' := by
 refine h.upd (putObj_upd W l o) (.putObj hr hm0) (fun i hi e => ?_) (fun {b o} hL e => ?_) (fun k e b hk hbk eb => ?_) (fun b hbl => by subst hbl; exact hE)
 ·obtain ⟨c, t, fr, hc⟩ := h.mm.bc hi
  rw [e, hr] at hc; cases hc; cases hc0
 ·obtain ⟨u, hu⟩ := h.mm.Lc hL
  unfold World.cell? at hu
  dsimp only at hu
  rw [e, hr] at hu
  cases o0 <;> first | (cases hc0; done) | cases hu
 ·obtain ⟨n0, vals, o1, _⟩ := h.mm.own hk
  rcases o1.2 with ⟨h0, _⟩ | ⟨gg, cap, cur, h0, _, h1, _⟩
  ·rw [h0] at hbk; cases hbk
  ·rw [h0] at hbk; cases hbk; dsimp only at eb; rw [eb, hr] at h1; cases h1; cases hc0
theorem leaves_marks (hT : TabOk P tb) {base : Nat} {S : Nat → Prop} {fn : Func} {r : T} {ts : List T} {R : Ending → World → Prop} {w0 : World} (hE0 : X.E w0) : ∀ (ms : List Nat) (st : St) (a : Act) (w : World) (g : Gh), Hd P X base S st a w g → MarksOk w0 w ms → resTs tb st fn.results.toList = some ts → resOk ts r → (∀ v w', Upd (fun b => w0.heap.size ≤ b) w w' → Hd P X base S st a w' g → RepT P w' g r v → r.pure = true → R (.returned v) w') → LeavesInM Fence.wide 1 P fn a.tmps R (marks ms) .returning w
 | [], st, a, w, g, hd, hm, hts, hr, hR => by
  obtain ⟨v, v1, v2, v3⟩ := results_run hT hd hts hr
  exact ⟨v, v1, hR v w (Upd.refl _ _) hd v2 v3⟩
 | m :: ms, st, a, w, g, hd, hm, hts, hr, hR => by
  obtain ⟨h1, h2⟩ := hm.2 m (by simp)
  have hmE : ¬ X.Eb m := fun hE => by have := X.lt hE0 hE; omega
  refine ⟨by simp, .inl ⟨m, _, rfl, run_takeDeferred h2, ?_⟩⟩
  have hnd := List.nodup_cons.1 hm.1
  refine leaves_marks hT hE0 ms st a _ g (hd.putObj _ h2 rfl rfl hmE) ⟨hnd.2, fun r' hr' => ?_⟩ hts hr fun v w' hu hd' hrv hp => hR v w' (((putObj_upd w m _).mono fun k hk => (by rw [hk]; exact h1)).trans hu) hd' hrv hp
  obtain ⟨h3, h4⟩ := hm.2 r' (by simp [hr'])
  refine ⟨h3, ?_⟩
  rw [World.putObj_heap_other (fun e => hnd.1 (by rw [← e]; exact hr'))]
  exact h4
theorem fn_of (hT : TabOk P tb) (hm : P.follows .mixedOrders = true) {f : FuncId} {fn : Func} {c : Code} {args : List T} {r : T} (hf : P.funcs[f]? = some fn) (hb : fn.body = some c)
  (hen : ∀ (vs : Array Value) (w : World), (callFunc f vs).run P w = .ok (.enter f vs) w) (hn : Nat.ble args.length fn.ntmps = true)
  (h : aCode P X tb c (endQ tb fn.results.toList r) (St.head fn.ntmps args)) : Fn P X f args r := by
 refine ⟨hen, fun w L vs hE hL hargs => ?_⟩
 have hn' := Nat.le_of_ble_eq_true hn
 have hvl := hargs.length
 have hd : Hd P X w.heap.size (fun _ => False) (St.head fn.ntmps args) { tmps := vs.toArray ++ Array.replicate (fn.ntmps - vs.toArray.size) undef, defers := [] } w ⟨L, fun _ => (0, 0), fun _ => undef⟩ := by
  refine ⟨by simp [St.head]; omega, fun t => ?_, ⟨fun hi => (by cases hi), fun hi => (by cases hi), fun hi => (by cases hi), fun hi => (by cases hi), fun hi => (by cases hi), fun hi => (by cases hi), fun hi => (by cases hi), fun hi => (by cases hi), fun hi => (by cases hi), hL, fun hi => (by cases hi), fun hi => (by cases hi)⟩, hE, Nat.le_refl _⟩
  have := argsE_get 0 t hargs
  rw [if_neg (by omega), Nat.sub_zero] at this
  refine Eq.mpr ?_ this
  congr 1
  show ((vs.toArray ++ Array.replicate (fn.ntmps - vs.toArray.size) undef).getD t undef) = _
  rw [Array.getD_eq_getD_getElem?, List.getD_eq_getElem?_getD]
  by_cases ht : t < vs.length
  ·rw [Array.getElem?_append_left (by simpa using ht)]; simp
  ·rw [Array.getElem?_append_right (by simpa using ht), List.getElem?_eq_none (by omega)]
   by_cases h2 : t - vs.toArray.size < fn.ntmps - vs.toArray.size
   ·rw [Array.getElem?_replicate, if_pos h2]; rfl
   ·rw [Array.getElem?_replicate, if_neg h2]
 have hw := code_wp hT hm c X ⟨fun _ h => h, fun _ h => h⟩ w.heap.size fn.ntmps (fun _ => False) Fence.wide 1 (.inl rfl) (fun _ => True) (fun _ _ => trivial) _ _ _ w _ (fun ch st h => h.elim) (fun l hl => by cases hl) h hd rfl
 refine callsIn_wide.1 (callsIn_of_wp_marks (n := 1) hf hb trivial (wpIn_mono hw ?_))
 rintro e a' w' ⟨st', g', q1, q2, q3, q4, q5, ms, q6, q7⟩
 rw [List.append_nil] at q6
 have fin : (match resTs tb st' fn.results.toList with | some ts => resOk ts r | none => False) → LeavesInM Fence.wide 1 P fn a'.tmps (fun e w' => ∃ v L', e = .returned v ∧ Below w.heap.size w w' ∧ Same L w L' w' ∧ (∀ {b o}, L' b o → L b o ∨ w.heap.size ≤ b) ∧ (∀ {b o}, L' b o → ∃ u, w'.cell? ⟨b, o, none⟩ = some u) ∧ RepT P w' ⟨L', fun _ => (0, 0), fun _ => undef⟩ r v) a'.defers .returning w' := fun hr => by
  split at hr
  ·rename_i ts hts
   rw [q6]
   refine leaves_marks hT hE ms st' a' w' g' q2 q7 hts hr fun v w2 hu hd2 hrv hp => ?_
   have hu1 := q3.upd
   refine ⟨v, g'.L, rfl, ⟨hu.os.trans hu1.os, hu.tape.trans hu1.tape, hu.output.trans hu1.output, Nat.le_trans hu1.size hu.size, fun k hk => ?_⟩, ⟨fun b o u h1 h2 => ?_, fun k o h1 h2 => (hu.block k (Array.getElem?_eq_some_iff.1 (q3.same.m k o h1 h2)).1 (by have := (Array.getElem?_eq_some_iff.1 h1).1; omega)).trans (q3.same.m k o h1 h2)⟩, fun {b o} h => (q3.newL h).imp id And.left, hd2.mm.Lc, RepT.pure (g := g') (g' := ⟨g'.L, fun _ => (0, 0), fun _ => undef⟩) (w' := w2) hp (Same.refl _ _) hrv⟩
   ·rw [hu.block k (Nat.lt_of_lt_of_le hk hu1.size) (by omega)]
    exact hu1.block k hk (by rintro (h | h); exact h; omega)
   ·obtain ⟨h3, h4⟩ := q3.same.c b o u h1 h2
    have hbl := World.block_lt_of_cell? w _ h2
    exact ⟨h3, hu.cell h4 (by dsimp only at *; omega)⟩
  ·exact hr.elim
 cases e with
 | normal => exact fin q1
 | ret => exact fin q1
 | exit id => exact q1.elim
 | goto l => exact q1.elim
 | panic ch => exact q1.elim
 | outgrown => exact q1.elim
theorem enter_of {f : FuncId} (h : ((P.funcs[f]?).map fun fn => fn.name == "runtime.NumGoroutine" || fn.body.isNone) = some false) (vs : Array Value) (w : World) : (callFunc f vs).run P w = .ok (.enter f vs) w := by
 cases hf : P.funcs[f]? with
 | none => rw [hf] at h; cases h
 | some fn =>
  rw [hf] at h
  simp only [Option.map_some, Option.some.injEq, Bool.or_eq_false_iff] at h
  unfold callFunc
  simp only [Sem.run_bind, run_program, Result.andThen_ok, hf, h.1, h.2, Bool.false_eq_true, if_false]
  rfl
def bodyOf (fn : Func) : Code := match fn.body with
 | some c => c
 | none => .skip
theorem fn_prog (hT : TabOk P tb) (hm : P.follows .mixedOrders = true) {f : FuncId} (fn : Func) {args : List T} {r : T} (hf : P.funcs[f]? = some fn) (hb : (fn.name == "runtime.NumGoroutine" || fn.body.isNone) = false) (hn : Nat.ble args.length fn.ntmps = true)
  (h : aCode P X tb (bodyOf fn) (endQ tb fn.results.toList r) (St.head fn.ntmps args)) : Fn P X f args r := by
 cases hc : fn.body with
 | none => rw [hc] at hb; simp at hb
 | some c =>
  refine fn_of hT hm hf hc (enter_of (by rw [hf, Option.map_some, hb])) hn ?_
  unfold bodyOf at h
  rw [hc] at h
  exact h
end Go.Proofs.YtiafggoaedifdaaGreatDoor
/- The walk without memory: the program's types, asked by one reckoning. Whatever program. -/
namespace Go.Proofs.YtiafggoaedifdaaGreatDoor
open Go.RowKit
set_option linter.unusedVariables false
variable {P : Program}
theorem lk_all {β : Type} {p : Nat × β → Bool} {l : List (Nat × β)} (h : l.all p = true) {n : Nat} {x : β} (hx : lk n l = some x) : p (n, x) = true := List.all_eq_true.1 h _ (lk_mem hx)
def fldB (P : Program) (r : Nat × List (Nat × Nat × Bool)) : Bool := match P.underlying r.1 with
 | some (.struct fs) => decide (fs.toList.map (fun f => (f.offset, P.cellsOf f.type, aggB P f.type)) = r.2) && fs.toList.all (fun f => (P.info? f.type).isSome && (P.underlying f.type).isSome && P.cellsOf f.type != 0)
 | _ => false
def sizB (P : Program) (r : Nat × (Nat × Bool)) : Bool := (P.underlying r.1).isSome && aggB P r.1 == r.2.2 && (r.2.2 || r.2.1 == 1) && r.2.1 != 0 && match P.info? r.1 with
 | some i => i.size == r.2.1 && i.bytes ≤ 100000 && match i.zero with
  | some z => z.cells.size == r.2.1
  | none => false
 | none => false
def eltB (P : Program) (r : Nat × Nat) : Bool := match P.underlying r.1 with
 | some (.slice e) => e == r.2
 | _ => false
def zeqB : V → Value → Bool
 | .int k n, .int k' n' => k == k' && n == n'
 | .bool b, .bool b' => b == b'
 | .str s, .string s' => decide (s = s')
 | .nils, .slice none 0 0 => true
 | .nili, .nilIface => true
 | .raw (.pointer none), .pointer none => true
 | .raw .nilFunc, .nilFunc => true
 | .raw (.map none), .map none => true
 | _, _ => false
theorem zeqB_eq {x : V} {u : Value} (h : zeqB x u = true) : u = zv x ∧ zok x = true := by
 unfold zeqB at h
 split at h <;> first | (cases h; done) | (exact ⟨rfl, rfl⟩) | skip
 ·simp at h; obtain ⟨rfl, rfl⟩ := h; exact ⟨rfl, rfl⟩
 ·simp at h; subst h; exact ⟨rfl, rfl⟩
 ·simp at h; subst h; exact ⟨rfl, rfl⟩
def zerL : List V → List Value → Bool
 | [], [] => true
 | x :: xs, u :: us => zeqB x u && zerL xs us
 | _, _ => false
theorem zerL_eq : ∀ {xs : List V} {us : List Value}, zerL xs us = true → us = xs.map zv ∧ xs.all zok = true
 | [], [], _ => ⟨rfl, rfl⟩
 | x :: xs, u :: us, h => by
  rw [zerL, Bool.and_eq_true] at h
  obtain ⟨h1, h2⟩ := zeqB_eq h.1
  obtain ⟨h3, h4⟩ := zerL_eq h.2
  exact ⟨by rw [h1, h3]; rfl, by rw [List.all_cons, h2, h4]; rfl⟩
 | [], _ :: _, h => by cases h
 | _ :: _, [], h => by cases h
def zerB (P : Program) (r : Nat × List V) : Bool := match P.info? r.1 with
 | some i => match i.zero with
  | some v => zerL r.2 v.cells.toList
  | none => false
 | none => false
def strB (P : Program) (r : Nat × Unit) : Bool := match P.underlying r.1 with
 | some .string => true
 | _ => false
def booB (P : Program) (r : Nat × Unit) : Bool := match P.underlying r.1 with
 | some .bool => true
 | _ => false
def intB (P : Program) (r : Nat × IntKind) : Bool := match P.underlying r.1 with
 | some (.int k) => k == r.2
 | _ => false
def conB (P : Program) (r : Nat × Bool) : Bool := match P.underlying r.1 with
 | some (.interface _) => r.2
 | some _ => !r.2
 | none => false
def flatB (P : Program) : Nat → List Field → List Bool → Bool
 | _, [], [] => true
 | i, f :: fs, k :: ks => f.name != "_" && (f.offset == i && ((match P.underlying f.type with
  | some .string => k
  | some .bool => !k
  | _ => false) && flatB P (i + 1) fs ks))
 | _, _, _ => false
theorem flatB_ok {P : Program} : ∀ (i : Nat) (fs : List Field) (ks : List Bool), flatB P i fs ks = true → FlatOk P i fs ks
 | _, [], [], _ => trivial
 | i, f :: fs, k :: ks, h => by
  rw [flatB, Bool.and_eq_true, Bool.and_eq_true, Bool.and_eq_true] at h
  obtain ⟨h1, h2, h3, h4⟩ := h
  refine ⟨by simpa using h1, by simpa using h2, ?_, flatB_ok (i + 1) fs ks h4⟩
  split at h3
  ·rename_i e; rw [e, if_pos h3]
  ·rename_i e; rw [e, if_neg (by cases k <;> simp_all)]
  ·cases h3
 | _, [], _ :: _, h => by cases h
 | _, _ :: _, [], h => by cases h
def eqsB (P : Program) (r : Nat × List Bool) : Bool := match P.underlying r.1 with
 | some (.struct fs) => !P.stoodInHeld r.1 && (!P.eqGuardType P.depth r.1 && flatB P 0 fs.toList r.2)
 | _ => false
def zvalB : V → Value → Bool
 | .agg l, .agg cs => zerL l cs.toList
 | x, v => zeqB x v
theorem zvalB_eq {x : V} {v : Value} (h : zvalB x v = true) : v = zval x ∧ zvok x = true := by
 unfold zvalB at h
 split at h
 ·rename_i l cs
  obtain ⟨h1, h2⟩ := zerL_eq h
  exact ⟨by show Value.agg cs = .agg _; congr 1; rw [← h1], h2⟩
 ·obtain ⟨h1, h2⟩ := zeqB_eq h
  cases x <;> first | exact ⟨h1, h2⟩ | cases h2
def mpsB (P : Program) (r : Nat × (Option IntKind × V)) : Bool := match P.underlying r.1 with
 | some (.map k e) => (match P.underlying k, r.2.1 with
  | some (.int d), some d' => d == d'
  | some .string, none => true
  | _, _ => false) && match P.info? e with
  | some i => match i.zero with
   | some v => zvalB r.2.2 v
   | none => false
  | none => false
 | _ => false
def tabB (P : Program) (tb : Tab) : Bool := (tb.fld.all (fldB P) && tb.siz.all (sizB P) && tb.elt.all (eltB P) && tb.zer.all (zerB P) && tb.str.all (strB P) && tb.boo.all (booB P) && tb.ints.all (intB P) && tb.con.all (conB P)) && tb.eqs.all (eqsB P) && tb.mps.all (mpsB P)
theorem tabOk_of {tb : Tab} (h : tabB P tb = true) : TabOk P tb := by
 unfold tabB at h
 simp only [Bool.and_eq_true] at h
 obtain ⟨⟨⟨⟨⟨⟨⟨⟨⟨h1, h2⟩, h3⟩, h4⟩, h5⟩, h6⟩, h7⟩, h8⟩, h9⟩, h10⟩ := h
 have siz : ∀ {t q}, lk t tb.siz = some q → ∃ i z, P.info? t = some i ∧ i.size = q.1 ∧ i.zero = some z ∧ z.cells.size = q.1 ∧ i.bytes ≤ 100000 ∧ (P.underlying t).isSome = true ∧ aggB P t = q.2 ∧ (q.2 = false → q.1 = 1) ∧ q.1 ≠ 0 := fun {t q} ht => by
  have := lk_all h2 ht
  unfold sizB at this
  simp only [Bool.and_eq_true] at this
  obtain ⟨⟨⟨⟨g1, g2⟩, g3⟩, g4⟩, g5⟩ := this
  split at g5
  ·rename_i i hi
   simp only [Bool.and_eq_true] at g5
   obtain ⟨⟨g6, g7⟩, g8⟩ := g5
   split at g8
   ·rename_i z hz
    exact ⟨i, z, hi, by simpa using g6, hz, by simpa using g8, by simpa using g7, g1, by simpa using g2, fun hq => by simpa [hq] using g3, by simpa using g4⟩
   ·cases g8
  ·cases g5
 refine ⟨fun {t q} ht => ?_, fun {t ks} ht => ?_, fun {t l} ht => ?_, fun {t q} ht => ?_, fun {t q} ht => ?_, fun {t e} ht => ?_, fun {t z} ht => ?_, fun {t} ht => ?_, fun {t} ht => ?_, fun {t k} ht => ?_, fun {t} ht => ?_, fun {t} ht => ?_⟩
 ·have := lk_all h10 ht
  unfold mpsB at this
  split at this
  ·rename_i k e hke
   rw [Bool.and_eq_true] at this
   obtain ⟨g1, g2⟩ := this
   split at g2
   ·rename_i i hi
    split at g2
    ·rename_i v hv
     obtain ⟨z1, z2⟩ := zvalB_eq g2
     refine ⟨k, e, i, hke, ?_, hi, by rw [hv, z1], z2⟩
     split at g1
     ·rename_i d d' hd hd'; dsimp only at hd'; rw [hd, hd', show d = d' by simpa using g1]
     ·rename_i hd hd'; dsimp only at hd'; rw [hd, hd']
     ·cases g1
    ·cases g2
   ·cases g2
  ·cases this
 ·have := lk_all h9 ht
  unfold eqsB at this
  split at this
  ·rename_i fs hfs
   rw [Bool.and_eq_true, Bool.and_eq_true] at this
   exact ⟨fs, hfs, by simpa using this.1, by simpa using this.2.1, flatB_ok _ _ _ this.2.2⟩
  ·cases this
 ·have := lk_all h1 ht
  unfold fldB at this
  split at this
  ·rename_i fs hfs
   rw [Bool.and_eq_true, decide_eq_true_eq] at this
   exact ⟨fs, hfs, this.1, this.2⟩
  ·cases this
 ·obtain ⟨i, z, a1, a2, a3, a4, a5, a6, a7, a8, a9⟩ := siz ht
  exact ⟨by rw [a1]; rfl, by simp [Program.cellsOf, a1, a2], a6, a7, a8, a9⟩
 ·obtain ⟨i, z, a1, a2, a3, a4, a5, a6, a7, a8, a9⟩ := siz ht
  exact ⟨i, z, a1, a3, a4, a5⟩
 ·have := lk_all h3 ht
  unfold eltB at this
  split at this
  ·rename_i e' he
   rw [he, show e' = e by simpa using this]
  ·cases this
 ·have := lk_all h4 ht
  unfold zerB at this
  split at this
  ·rename_i i hi
   split at this
   ·rename_i v hv
    obtain ⟨q1, q2⟩ := zerL_eq this
    exact ⟨i, v, hi, hv, q1, q2⟩
   ·cases this
  ·cases this
 ·obtain ⟨u, hu⟩ := Option.isSome_iff_exists.1 ht
  have := lk_all h5 hu
  unfold strB at this
  split at this
  ·assumption
  ·cases this
 ·obtain ⟨u, hu⟩ := Option.isSome_iff_exists.1 ht
  have := lk_all h6 hu
  unfold booB at this
  split at this
  ·assumption
  ·cases this
 ·have := lk_all h7 ht
  unfold intB at this
  split at this
  ·rename_i k' hk
   rw [hk, show k' = k by simpa using this]
  ·cases this
 ·have := lk_all h8 ht
  unfold conB at this
  split at this
  ·rename_i ms hms; exact ⟨ms, hms⟩
  ·simp at this
  ·cases this
 ·have := lk_all h8 ht
  unfold conB at this
  split at this
  ·simp at this
  ·rename_i d hne hd
   exact ⟨d, hd, fun ms e => hne ms e⟩
  ·cases this
end Go.Proofs.YtiafggoaedifdaaGreatDoor
/- The walk without memory: its steps. -/
namespace Go.Proofs.YtiafggoaedifdaaGreatDoor
open Go.RowKit
set_option linter.unusedVariables false
theorem cmp_split {p : Prop} {K : Bool → Prop} (h1 : p → K true) (h2 : ¬ p → K false) : ∀ q : Bool, (q = true ↔ p) → K q := fun q hq => by
 cases q
 ·exact h2 (fun h => by have := hq.2 h; cases this)
 ·exact h1 (hq.1 rfl)
theorem cmp_true {p : Prop} {K : Bool → Prop} (hp : p) (h1 : K true) : ∀ q : Bool, (q = true ↔ p) → K q := cmp_split (fun _ => h1) (fun h => absurd hp h)
theorem cmp_false {p : Prop} {K : Bool → Prop} (hp : ¬ p) (h1 : K false) : ∀ q : Bool, (q = true ↔ p) → K q := cmp_split (fun h => absurd h hp) (fun _ => h1)
theorem cmp_bool {p : Prop} [Decidable p] {K : Bool → Prop} (h1 : K (decide p)) : ∀ q : Bool, (q = true ↔ p) → K q := cmp_split (fun h => by rw [decide_eq_true h] at h1; exact h1) (fun h => by rw [decide_eq_false h] at h1; exact h1)
theorem st_eq {α : Type} {a : α} {K : α → Prop} (h : K a) : ∃ n, a = n ∧ K n := ⟨a, rfl, h⟩
theorem wrap64 {a : Int} (h1 : -9223372036854775808 ≤ a) (h2 : a ≤ 9223372036854775807) : IntKind.i64.wrap a = a := IntWalk.i64_in _ ⟨by omega, by omega⟩
theorem st_wrap {a : Int} {K : Int → Prop} (h1 : -9223372036854775808 ≤ a) (h2 : a ≤ 9223372036854775807) (h : K a) : ∃ n, IntKind.i64.wrap a = n ∧ K n := ⟨a, wrap64 h1 h2, h⟩
theorem st_succ {k : Nat} {K : Int → Prop} (hk : k ≤ 1000000000000) (h : K ((k + 1 : Nat) : Int)) : ∃ n, IntKind.i64.wrap ((k : Nat) + 1) = n ∧ K n := ⟨_, wrap64 (by omega) (by omega), by rw [show ((k : Int) + 1) = ((k + 1 : Nat) : Int) by omega]; exact h⟩
theorem st_min {a : Nat} (b : Nat) {K : Int → Prop} (h : K ((min a b : Nat) : Int)) : ∃ n, (if (b : Int) < (a : Int) then (b : Int) else (a : Int)) = n ∧ K n := ⟨_, rfl, by rw [show (if (b : Int) < (a : Int) then (b : Int) else (a : Int)) = ((min a b : Nat) : Int) by split <;> omega]; exact h⟩
theorem st_idx {α : Type} {xs : List α} {enc : α → List V} {i m : Nat} {K : List V → Prop} (h : i < xs.length) (hm : (enc (xs[i]'h)).length = m) (hK : K (enc (xs[i]'h))) : ∃ c, (0 : Int) ≤ (i : Nat) ∧ (xs.map enc)[((i : Nat) : Int).toNat]? = some c ∧ c.length = m ∧ K c :=
 ⟨_, by omega, by rw [Int.toNat_natCast, List.getElem?_map, List.getElem?_eq_getElem h]; rfl, hm, hK⟩
theorem st_byte {s : ByteArray} {i : Nat} {K : UInt8 → Prop} (h : i < s.size) (hK : K (s[i]'h)) : ∃ c : UInt8, (0 : Int) ≤ (i : Nat) ∧ s.data.toList[((i : Nat) : Int).toNat]? = some c ∧ K c :=
 ⟨_, by omega, by rw [Int.toNat_natCast, Array.getElem?_toList, Array.getElem?_eq_getElem h]; rfl, hK⟩
theorem st_cut {s : ByteArray} (a b : Nat) {l h : Int} {K : ByteArray → Prop} (e1 : l = a) (e2 : h = b) (h1 : a ≤ b) (h2 : b ≤ s.size) (hK : K (s.extract a b)) : ∃ a b : Nat, l = a ∧ h = b ∧ a ≤ b ∧ b ≤ s.size ∧ ∃ z, s.extract a b = z ∧ K z := ⟨a, b, e1, e2, h1, h2, _, rfl, hK⟩
theorem st_sub {xs : List (List V)} (a b : Nat) {l h : Int} {m : Nat} {K : List (List V) → Prop} (e1 : l = a) (e2 : h = b) (h1 : a ≤ b) (h2 : b ≤ xs.length) (h3 : ∀ c ∈ xs, c.length = m) {z : List (List V)} (hz : (xs.take b).drop a = z) (hK : K z) : ∃ a b : Nat, l = a ∧ h = b ∧ a ≤ b ∧ b ≤ xs.length ∧ (∀ c ∈ xs, c.length = m) ∧ ∃ z, (xs.take b).drop a = z ∧ K z := ⟨a, b, e1, e2, h1, h2, h3, _, hz, hK⟩
theorem st_app {xs ys zs : List (List V)} {m : Nat} {K : List (List V) → Prop} (h1 : xs.length + ys.length ≤ 1000000000) (h2 : ∀ c ∈ ys, c.length = m) (hz : xs ++ ys = zs) (hK : K zs) : xs.length + ys.length ≤ 1000000000 ∧ (∀ c ∈ ys, c.length = m) ∧ ∃ zs, xs ++ ys = zs ∧ K zs := ⟨h1, h2, _, hz, hK⟩
theorem st_cat {s t z : ByteArray} {K : ByteArray → Prop} (h : s.size + t.size ≤ 9223372036854775807) (hz : s ++ t = z) (hK : K z) : s.size + t.size ≤ 9223372036854775807 ∧ ∃ z, s ++ t = z ∧ K z := ⟨h, _, hz, hK⟩
theorem map_take_succ {α : Type} {enc : α → List V} {xs : List α} {i : Nat} (h : i < xs.length) : (xs.take i).map enc ++ [enc xs[i]] = (xs.take (i + 1)).map enc := by
 rw [List.take_succ_eq_append_getElem h, List.map_append]; rfl
theorem st_call {f : FuncId} {P : Program} {X : En} {bs args : List T} {r : T} {K : T → Prop} (h : Fn P X f args r) (hl : LeTs bs args) (h1 : T.pures args = true) (h2 : r.pure = true) (hK : K r) : ∃ (args : List T) (r : T), Cn P X f [] args r [] ∧ LeTs bs args ∧ T.pures args = true ∧ r.pure = true ∧ K r := ⟨args, r, ⟨rfl, h⟩, hl, h1, h2, hK⟩
end Go.Proofs.YtiafggoaedifdaaGreatDoor
/- The walk without memory: steps with numbers. Whatever program. -/
namespace Go.Proofs.YtiafggoaedifdaaGreatDoor
open Go.RowKit
theorem ofNat_wrap (n : Nat) : UInt8.ofNat (IntKind.u8.wrap (n : Int)).toNat = UInt8.ofNat n := by
 have : (IntKind.u8.wrap (n : Int)).toNat = n % 256 := by
  simp [IntKind.wrap, IntKind.signed, IntKind.bits]
  omega
 rw [this, ← UInt8.toNat_inj, UInt8.toNat_ofNat', UInt8.toNat_ofNat']
 omega
theorem st_div (a b : Nat) (hb : b ≠ 0) (ha : a ≤ 1000000000000000) {K : Int → Prop} (h : K ((a / b : Nat) : Int)) : IntKind.i64 = IntKind.i64 ∧ (b : Int) ≠ 0 ∧ ∃ n, IntKind.i64.wrap ((a : Int).tdiv (b : Int)) = n ∧ K n := by
 refine ⟨rfl, by omega, _, rfl, ?_⟩
 have e : (a : Int).tdiv (b : Int) = ((a / b : Nat) : Int) := by rw [Int.tdiv_eq_ediv_of_nonneg (by omega)]; rfl
 have := Nat.div_le_self a b
 rw [e]
 generalize a / b = d at *
 rw [wrap64 (by omega) (by omega)]; exact h
theorem st_mod (a b : Nat) (hb : b ≠ 0) {K : Int → Prop} (h : K ((a % b : Nat) : Int)) : IntKind.i64 = IntKind.i64 ∧ (b : Int) ≠ 0 ∧ ∃ n, (a : Int).tmod (b : Int) = n ∧ K n := by
 refine ⟨rfl, by omega, _, rfl, ?_⟩
 have e : (a : Int).tmod (b : Int) = ((a % b : Nat) : Int) := by rw [Int.tmod_eq_emod_of_nonneg (by omega)]; rfl
 rw [e]; exact h
theorem st_add (a b : Nat) (ha : a + b ≤ 1000000000000000) {K : Int → Prop} (h : K ((a + b : Nat) : Int)) : IntKind.i64 = IntKind.i64 ∧ ∃ n, IntKind.i64.wrap ((a : Int) + (b : Int)) = n ∧ K n :=
 ⟨rfl, _, wrap64 (by omega) (by omega), by rw [show ((a : Int) + (b : Int)) = ((a + b : Nat) : Int) by omega]; exact h⟩
theorem st_minus (a b : Nat) (hab : b ≤ a) (ha : a ≤ 1000000000000000) {K : Int → Prop} (h : K ((a - b : Nat) : Int)) : IntKind.i64 = IntKind.i64 ∧ ∃ n, IntKind.i64.wrap ((a : Int) - (b : Int)) = n ∧ K n :=
 ⟨rfl, _, wrap64 (by omega) (by omega), by rw [show ((a : Int) - (b : Int)) = ((a - b : Nat) : Int) by omega]; exact h⟩
theorem st_times (a b : Nat) (ha : a * b ≤ 1000000000000000) {K : Int → Prop} (h : K ((a * b : Nat) : Int)) : IntKind.i64 = IntKind.i64 ∧ ∃ n, IntKind.i64.wrap ((a : Int) * (b : Int)) = n ∧ K n :=
 ⟨rfl, _, wrap64 (by rw [← Int.natCast_mul]; omega) (by rw [← Int.natCast_mul]; omega), by rw [← Int.natCast_mul]; exact h⟩
theorem st_int (c : UInt8) {K : Int → Prop} (h : K ((c.toNat : Nat) : Int)) : ∃ n, IntKind.i64.wrap ((c.toNat : Nat) : Int) = n ∧ K n := by
 have := c.toNat_lt
 exact ⟨_, wrap64 (by omega) (by omega), h⟩
theorem st_getD {s : ByteArray} {i : Nat} {K : UInt8 → Prop} (h : i < s.size) (hK : K (s.data.toList.getD i 0)) : ∃ c : UInt8, (0 : Int) ≤ (i : Nat) ∧ s.data.toList[((i : Nat) : Int).toNat]? = some c ∧ K c := by
 have h' : i < s.data.toList.length := by simpa using h
 refine ⟨s.data.toList.getD i 0, by omega, ?_, hK⟩
 rw [Int.toNat_natCast, List.getD_eq_getElem?_getD, List.getElem?_eq_getElem h']
 rfl
theorem cmp_iff {p : Prop} {A : Bool} (e : p ↔ A = true) {K : Bool → Prop} (h1 : A = true → K true) (h2 : A = false → K false) : ∀ q : Bool, (q = true ↔ p) → K q := fun q hq => by
 cases hA : A
 ·have : q = false := by
   cases q
   ·rfl
   ·have := e.1 (hq.1 rfl); rw [hA] at this; cases this
  rw [this]; exact h2 hA
 ·rw [show q = true from hq.2 (e.2 hA)]; exact h1 hA
theorem st_byteE {s : ByteArray} {i : Nat} {b : UInt8} (h : i < s.size) (hb : b = s[i]) {K : UInt8 → Prop} (hK : K b) : ∃ c : UInt8, (0 : Int) ≤ (i : Nat) ∧ s.data.toList[((i : Nat) : Int).toNat]? = some c ∧ K c := st_byte h (hb ▸ hK)
theorem st_callB {f : FuncId} {P : Program} {X : En} {bs args : List T} {b : Bool} {K : T → Prop} (h : Fn P X f args (.v (.bool b))) (hl : LeTs bs args) (h1 : T.pures args = true) (ht : b = true → K (.v (.bool true))) (hf : b = false → K (.v (.bool false))) : ∃ (args : List T) (r : T), Cn P X f [] args r [] ∧ LeTs bs args ∧ T.pures args = true ∧ r.pure = true ∧ K r :=
 ⟨args, _, ⟨rfl, h⟩, hl, h1, rfl, by cases b; exact hf rfl; exact ht rfl⟩
end Go.Proofs.YtiafggoaedifdaaGreatDoor
/- The walk without memory: the contract of a function that gets pointers to variables, out of the walk of its body. Whatever program. -/
namespace Go.Proofs.YtiafggoaedifdaaGreatDoor
open Go.RowKit
set_option linter.unusedVariables false
variable {P : Program} {X : En} {tb : Tab}
mutual
def shiftT (n : Nat) : T → T
 | .ptr i o => .ptr (n + i) o
 | .fn f caps => .fn f (shiftTs n caps)
 | .tup l => .tup (shiftTs n l)
 | .sub k m => .sub k m
 | .un => .un
 | .v x => .v x
 | .own k e xs => .own k e xs
 | .ro cs => .ro cs
def shiftTs (n : Nat) : List T → List T
 | [] => []
 | t :: r => shiftT n t :: shiftTs n r
end
def boxesAt : Nat → List (List T) → List (Nat × List T)
 | _, [] => []
 | n, cs :: r => (n, cs) :: boxesAt (n + 1) r
def shiftTss (n : Nat) : List (List T) → List (List T)
 | [] => []
 | l :: r => shiftTs n l :: shiftTss n r
def St.headM (n : Nat) (args : List T) (css : List (List T)) : St := { n := n, env := argsE 0 (shiftTs n args), bs := boxesAt n (shiftTss n css), lv := [] }
def bxEnd (st : St) : Nat → List (List T) → Prop
 | _, [] => True
 | n, cs :: r => (match lk n st.bs with
  | some c => LeTs c cs
  | none => False) ∧ bxEnd st (n + 1) r
def endQM (tb : Tab) (rs : List ResultVar) (r : T) (n : Nat) (css' : List (List T)) : Exit → St → Prop
 | .normal, st => match resTs tb st rs with
  | some ts => resOk ts r ∧ bxEnd st n (shiftTss n css')
  | none => False
 | .ret, st => match resTs tb st rs with
  | some ts => resOk ts r ∧ bxEnd st n (shiftTss n css')
  | none => False
 | _, _ => False
def Gh.sh (g : Gh) (n : Nat) : Gh := { L := g.L, ρ := fun i => g.ρ (i - n), κ := fun _ => undef }
theorem Gh.sh_at (g : Gh) (n i : Nat) : (g.sh n).ρ (n + i) = g.ρ i := by simp [Gh.sh]
mutual
theorem shiftT_rep {w : World} {g : Gh} {n : Nat} : ∀ (t : T) (v : Value), t.noK = true → RepT P w g t v → RepT P w (g.sh n) (shiftT n t) v
 | .un, _, _, _ => trivial
 | .v x, v, _, r => r
 | .own _ _ _, _, h, _ => by cases h
 | .ptr i o, v, _, r => by rw [shiftT]; rw [RepT] at r ⊢; rw [Gh.sh_at]; exact r
 | .ro cs, v, _, r => r
 | .fn f caps, v, h, ⟨cs, e, r⟩ => ⟨cs, e, shiftTs_rep caps cs.toList h r⟩
 | .tup l, v, h, ⟨cs, e, r⟩ => ⟨cs, e, shiftTs_rep l cs.toList h r⟩
 | .sub _ _, _, h, _ => by cases h
theorem shiftTs_rep {w : World} {g : Gh} {n : Nat} : ∀ (l : List T) (vs : List Value), T.noKs l = true → RepTs P w g l vs → RepTs P w (g.sh n) (shiftTs n l) vs
 | [], _, _, r => r
 | t :: r, _, h, ⟨u, us, e, h1, h2⟩ => by
  rw [T.noKs, Bool.and_eq_true] at h
  exact ⟨u, us, e, shiftT_rep t u h.1 h1, shiftTs_rep r us h.2 h2⟩
end
theorem shiftTs_len (n : Nat) : ∀ l : List T, (shiftTs n l).length = l.length
 | [] => rfl
 | t :: r => by rw [shiftTs, List.length_cons, List.length_cons, shiftTs_len n r]
theorem shiftTss_get {n : Nat} : ∀ {l : List (List T)} {k : Nat}, (shiftTss n l)[k]? = (l[k]?).map (shiftTs n)
 | [], k => by simp [shiftTss]
 | t :: r, 0 => rfl
 | t :: r, k + 1 => by rw [shiftTss, List.getElem?_cons_succ, List.getElem?_cons_succ]; exact shiftTss_get
theorem shiftTs_get {n : Nat} : ∀ {l : List T} {k : Nat}, (shiftTs n l)[k]? = (l[k]?).map (shiftT n)
 | [], k => by simp [shiftTs]
 | t :: r, 0 => rfl
 | t :: r, k + 1 => by rw [shiftTs, List.getElem?_cons_succ, List.getElem?_cons_succ]; exact shiftTs_get
theorem noKs_get : ∀ {l : List T} {k : Nat} {c : T}, T.noKs l = true → l[k]? = some c → c.noK = true
 | [], _, _, _, h => by simp at h
 | x :: xs, 0, c, h, hk => by rw [T.noKs, Bool.and_eq_true] at h; simp at hk; subst hk; exact h.1
 | x :: xs, k + 1, c, h, hk => by rw [T.noKs, Bool.and_eq_true] at h; exact noKs_get h.2 (k := k) (by simpa using hk)
theorem noKss_get : ∀ {l : List (List T)} {k : Nat} {c : List T}, T.noKss l = true → l[k]? = some c → T.noKs c = true
 | [], _, _, _, h => by simp at h
 | x :: xs, 0, c, h, hk => by rw [T.noKss, Bool.and_eq_true] at h; simp at hk; subst hk; exact h.1
 | x :: xs, k + 1, c, h, hk => by rw [T.noKss, Bool.and_eq_true] at h; exact noKss_get h.2 (k := k) (by simpa using hk)
mutual
theorem unshiftT {w : World} {g g' : Gh} {n : Nat} (hL : g.L = g'.L) (hρ : ∀ j, g.ρ (n + j) = g'.ρ j) : ∀ (t : T) (v : Value), t.noK = true → RepT P w g (shiftT n t) v → RepT P w g' t v
 | .un, _, _, _ => trivial
 | .v x, v, _, r => by rw [shiftT] at r; rw [RepT] at r ⊢; rw [← hL]; exact r
 | .own _ _ _, _, h, _ => by cases h
 | .ptr i o, v, _, r => by rw [shiftT] at r; rw [RepT] at r ⊢; rw [hρ] at r; exact r
 | .ro cs, v, _, r => by rw [shiftT] at r; rw [RepT] at r ⊢; rw [← hL]; exact r
 | .fn f caps, v, h, ⟨cs, e, r⟩ => ⟨cs, e, unshiftTs hL hρ caps cs.toList h r⟩
 | .tup l, v, h, ⟨cs, e, r⟩ => ⟨cs, e, unshiftTs hL hρ l cs.toList h r⟩
 | .sub _ _, _, h, _ => by cases h
theorem unshiftTs {w : World} {g g' : Gh} {n : Nat} (hL : g.L = g'.L) (hρ : ∀ j, g.ρ (n + j) = g'.ρ j) : ∀ (l : List T) (vs : List Value), T.noKs l = true → RepTs P w g (shiftTs n l) vs → RepTs P w g' l vs
 | [], _, _, r => r
 | t :: r, _, h, ⟨u, us, e, h1, h2⟩ => by
  rw [T.noKs, Bool.and_eq_true] at h
  exact ⟨u, us, e, unshiftT hL hρ t u h.1 h1, unshiftTs hL hρ r us h.2 h2⟩
end
theorem boxesAt_lk : ∀ (n : Nat) (css : List (List T)) (i : Nat) (cs : List T), lk i (boxesAt n css) = some cs → ∃ j, i = n + j ∧ css[j]? = some cs
 | _, [], _, _, h => by cases h
 | n, c :: r, i, cs, h => by
  rw [boxesAt] at h
  by_cases hi : i = n
  ·subst hi
   rw [lk_cons_eq] at h
   exact ⟨0, rfl, by simpa using h⟩
  ·rw [lk_cons_ne _ _ hi] at h
   obtain ⟨j, h1, h2⟩ := boxesAt_lk (n + 1) r i cs h
   exact ⟨j + 1, by omega, by simpa using h2⟩
theorem bxEnd_get {st : St} : ∀ {css : List (List T)} {n j : Nat} {cs : List T}, bxEnd st n css → css[j]? = some cs → ∃ c, lk (n + j) st.bs = some c ∧ LeTs c cs
 | [], _, _, _, _, h => by simp at h
 | c :: r, n, 0, cs, h, hj => by
  simp at hj; subst hj
  obtain ⟨h1, _⟩ := h
  split at h1
  ·rename_i c0 hc; exact ⟨c0, hc, h1⟩
  ·exact h1.elim
 | c :: r, n, j + 1, cs, h, hj => by
  obtain ⟨c0, h1, h2⟩ := bxEnd_get (n := n + 1) (j := j) h.2 (by simpa using hj)
  exact ⟨c0, by rw [show n + (j + 1) = n + 1 + j by omega]; exact h1, h2⟩
theorem headM {args : List T} {css : List (List T)} {n : Nat} {w : World} {g : Gh} {vs : List Value} (hn : Nat.ble args.length n = true) (hk : T.noKs args = true) (hp : T.noKss css = true) (hE : X.E w) (hL : ∀ {b o}, g.L b o → ∃ u, w.cell? ⟨b, o, none⟩ = some u) (hmb : MemB P X w g css) (hargs : RepTs P w g args vs) :
  Hd P X w.heap.size (fun b => ∃ j, j < css.length ∧ b = (g.ρ j).1) (St.headM n args css) { tmps := vs.toArray ++ Array.replicate (n - vs.toArray.size) undef, defers := [] } w (g.sh n) := by
 have hn' := Nat.le_of_ble_eq_true hn
 have hvl := hargs.length
 have hsh := shiftTs_rep (n := n) args vs hk hargs
 have hbx : ∀ {i : Nat} {cs : List T}, lk i (boxesAt n (shiftTss n css)) = some cs → ∃ j cs0, i = n + j ∧ css[j]? = some cs0 ∧ cs = shiftTs n cs0 := fun {i cs} hi => by
  obtain ⟨j, h1, h2⟩ := boxesAt_lk _ _ _ _ hi
  rw [shiftTss_get] at h2
  obtain ⟨cs0, h3, h4⟩ := Option.map_eq_some_iff.1 h2
  exact ⟨j, cs0, h1, h3, h4.symm⟩
 have hKc : ∀ {i : Nat}, isK (boxesAt n (shiftTss n css)) i → ∃ j, i = n + j ∧ j < css.length := fun {i} hi => by
  unfold isK at hi
  obtain ⟨cs, hcs⟩ := Option.isSome_iff_exists.1 hi
  obtain ⟨j, cs0, h1, h2, _⟩ := hbx hcs
  exact ⟨j, h1, (List.getElem?_eq_some_iff.1 h2).1⟩
 refine ⟨by simp [St.headM]; omega, fun t => ?_, ⟨fun {i cs} hi {k c} hk' => ?_, fun {i} hi k => ?_, fun {i} hi k => ?_, fun {i} hi => ?_, fun {i} hi => ?_, fun {i} hi => ?_, fun {i j} hi hj hij => ?_, fun hi => (by cases hi), fun hi => (by cases hi), hL, fun {i} hi => ?_, fun hi => (by cases hi)⟩, hE, Nat.le_refl _⟩
 ·have := argsE_get 0 t hsh
  rw [if_neg (by omega), Nat.sub_zero] at this
  refine Eq.mpr ?_ this
  congr 1
  show ((vs.toArray ++ Array.replicate (n - vs.toArray.size) undef).getD t undef) = _
  rw [Array.getD_eq_getD_getElem?, List.getD_eq_getElem?_getD]
  by_cases ht : t < vs.length
  ·rw [Array.getElem?_append_left (by simpa using ht)]; simp
  ·rw [Array.getElem?_append_right (by simpa using ht), List.getElem?_eq_none (by omega)]
   by_cases h2 : t - vs.toArray.size < n - vs.toArray.size
   ·rw [Array.getElem?_replicate, if_pos h2]; rfl
   ·rw [Array.getElem?_replicate, if_neg h2]
 ·obtain ⟨j, cs0, rfl, h2, rfl⟩ := hbx hi
  rw [shiftTs_get] at hk'
  obtain ⟨c0, h3, rfl⟩ := Option.map_eq_some_iff.1 hk'
  obtain ⟨u, hu, hr, ho⟩ := hmb.box h2 h3
  rw [Gh.sh_at]
  exact ⟨u, hu, shiftT_rep c0 u (noKs_get (noKss_get hp h2) h3) hr, ho⟩
 ·obtain ⟨j, rfl, hj⟩ := hKc hi
  rw [Gh.sh_at]; exact hmb.frz hj k
 ·obtain ⟨j, rfl, hj⟩ := hKc hi
  rw [Gh.sh_at]; exact hmb.bxL hj k
 ·obtain ⟨j, rfl, hj⟩ := hKc hi
  rw [Gh.sh_at]; exact hmb.bxE hj
 ·obtain ⟨j, rfl, hj⟩ := hKc hi
  rw [Gh.sh_at]; exact .inl ⟨j, hj, rfl⟩
 ·obtain ⟨j, rfl, hj⟩ := hKc hi
  rw [Gh.sh_at]; exact hmb.lt hj
 ·obtain ⟨i', rfl, hi'⟩ := hKc hi
  obtain ⟨j', rfl, hj'⟩ := hKc hj
  rw [Gh.sh_at, Gh.sh_at]; exact hmb.inj hi' hj' (fun e => hij (by rw [e]))
 ·obtain ⟨j, rfl, hj⟩ := hKc hi
  rw [Gh.sh_at]; exact hmb.bc hj
theorem endM {css css' : List (List T)} {n : Nat} {w w1 w2 : World} {g g' : Gh} {st' : St} {a' : Act} {base : Nat} {S : Nat → Prop} (hp' : T.noKss css' = true) (hlen : css'.map List.length = css.map List.length) (q3 : Stp X w.heap.size (fun b => ∃ j, j < css.length ∧ b = (g.ρ j).1) n w (g.sh n) w1 g') (hu : Upd (fun b => w.heap.size ≤ b) w1 w2) (hd2 : Hd P X base S st' a' w2 g') (hbe : bxEnd st' n (shiftTss n css')) :
  Upd (fun b => ∃ j, j < css.length ∧ b = (g.ρ j).1) w w2 ∧ Same g.L w g'.L w2 ∧ (∀ {b o}, g'.L b o → g.L b o ∨ w.heap.size ≤ b) ∧ (∀ {b o}, g'.L b o → ∃ u, w2.cell? ⟨b, o, none⟩ = some u) ∧ MemB P X w2 { g with L := g'.L } css' ∧ ∀ {k : Nat} {o : Obj}, w.heap[k]? = some o → o.isCells = false → w2.heap[k]? = some o := by
 have hl' : css'.length = css.length := by have := congrArg List.length hlen; simpa using this
 have hu1 := q3.upd
 have hrho : ∀ j, g'.ρ (n + j) = g.ρ j := fun j => by rw [q3.rho (Nat.le_add_right _ _), Gh.sh_at]
 have hbg : ∀ {j : Nat} {cs : List T}, css'[j]? = some cs → ∃ c, lk (n + j) st'.bs = some c ∧ LeTs c (shiftTs n cs) := fun {j cs} hj => bxEnd_get hbe (by rw [shiftTss_get, hj]; rfl)
 have at_ : ∀ {j : Nat}, j < css'.length → isK st'.bs (n + j) := fun {j} hj => by
  obtain ⟨c0, h1, _⟩ := hbg (List.getElem?_eq_getElem hj)
  unfold isK; rw [h1]; rfl
 refine ⟨⟨hu.os.trans hu1.os, hu.tape.trans hu1.tape, hu.output.trans hu1.output, Nat.le_trans hu1.size hu.size, fun k hk hs => ?_⟩, ⟨fun b o u h1 h2 => ?_, fun k o h1 h2 => (hu.block k (Array.getElem?_eq_some_iff.1 (q3.same.m k o h1 h2)).1 (by have := (Array.getElem?_eq_some_iff.1 h1).1; omega)).trans (q3.same.m k o h1 h2)⟩, fun {b o} h => (q3.newL h).imp id And.left, hd2.mm.Lc, ⟨fun {j cs} hj {k c} hk => ?_, fun {j} hj k => ?_, fun {j} hj k => ?_, fun {j} hj => ?_, fun {j} hj => ?_, fun {i j} hi hj hij => ?_, fun {j} hj => ?_⟩, fun {k o} hk hc => ?_⟩
 ·rw [hu.block k (Nat.lt_of_lt_of_le hk hu1.size) (by omega)]
  exact hu1.block k hk (by rintro (h | h); exact hs h; omega)
 ·obtain ⟨h3, h4⟩ := q3.same.c b o u h1 h2
  have hbl := World.block_lt_of_cell? w _ h2
  exact ⟨h3, hu.cell h4 (by dsimp only at *; omega)⟩
 ·obtain ⟨c0, h1, h2⟩ := hbg hj
  obtain ⟨c1, h3, h4⟩ := h2.get (k := k) (c := shiftT n c) (by rw [shiftTs_get, hk]; rfl)
  obtain ⟨u, hu3, hr3, ho3⟩ := hd2.mm.box h1 h3
  rw [hrho] at hu3
  exact ⟨u, hu3, unshiftT (g := g') (g' := { g with L := g'.L }) rfl hrho c u (noKs_get (noKss_get hp' hj) hk) (LeT.rep _ _ _ h4 hr3), ho3⟩
 ·have := hd2.mm.frz (at_ hj) k
  rwa [hrho] at this
 ·have := hd2.mm.bxL (at_ hj) k
  rwa [hrho] at this
 ·have := hd2.mm.bxE (at_ hj)
  rwa [hrho] at this
 ·have := hd2.mm.lt (at_ hj)
  rwa [hrho] at this
 ·have := hd2.mm.inj (at_ hi) (at_ hj) (fun e => hij (by omega))
  rwa [hrho, hrho] at this
 ·have := hd2.mm.bc (at_ hj)
  rwa [hrho] at this
 ·have h1 := q3.obj hk hc
  have hlt := (Array.getElem?_eq_some_iff.1 hk).1
  rw [hu.block k (Nat.lt_of_lt_of_le hlt hu1.size) (by omega)]
  exact h1
theorem fnM_of (hT : TabOk P tb) (hm : P.follows .mixedOrders = true) {f : FuncId} {fn : Func} {c : Code} {args : List T} {css css' : List (List T)} {r : T} (hf : P.funcs[f]? = some fn) (hb : fn.body = some c)
  (hen : ∀ (vs : Array Value) (w : World), (callFunc f vs).run P w = .ok (.enter f vs) w) (hn : Nat.ble args.length fn.ntmps = true) (hk : T.noKs args = true) (hp : T.noKss css = true) (hp' : T.noKss css' = true) (hlen : css'.map List.length = css.map List.length)
  (h : aCode P X tb c (endQM tb fn.results.toList r fn.ntmps css') (St.headM fn.ntmps args css)) : FnM P X f css args r css' := by
 refine ⟨hen, hlen, fun w g vs hE hL hmb hargs => ?_⟩
 have hd := headM (n := fn.ntmps) hn hk hp hE hL hmb hargs
 have hw := code_wp hT hm c X ⟨fun _ h => h, fun _ h => h⟩ w.heap.size fn.ntmps _ Fence.wide 1 (.inl rfl) (fun _ => True) (fun _ _ => trivial) _ _ _ w _ (fun ch st h => h.elim) (fun l hl => by cases hl) h hd rfl
 refine callsIn_wide.1 (callsIn_of_wp_marks (n := 1) hf hb trivial (wpIn_mono hw ?_))
 rintro e a' w' ⟨st', g', q1, q2, q3, q4, q5, ms, q6, q7⟩
 rw [List.append_nil] at q6
 have fin : (match resTs tb st' fn.results.toList with | some ts => resOk ts r ∧ bxEnd st' fn.ntmps (shiftTss fn.ntmps css') | none => False) → LeavesInM Fence.wide 1 P fn a'.tmps (fun e w' => ∃ v L', e = .returned v ∧ Upd (fun b => ∃ j, j < css.length ∧ b = (g.ρ j).1) w w' ∧ Same g.L w L' w' ∧ (∀ {b o}, L' b o → g.L b o ∨ w.heap.size ≤ b) ∧ (∀ {b o}, L' b o → ∃ u, w'.cell? ⟨b, o, none⟩ = some u) ∧ MemB P X w' { g with L := L' } css' ∧ (∀ {k : Nat} {o : Obj}, w.heap[k]? = some o → o.isCells = false → w'.heap[k]? = some o) ∧ RepT P w' { g with L := L' } r v) a'.defers .returning w' := fun hr => by
  split at hr
  ·rename_i ts hts
   obtain ⟨hr, hbe⟩ := hr
   rw [q6]
   refine leaves_marks hT hE ms st' a' w' g' q2 q7 hts hr fun v w2 hu hd2 hrv hpv => ?_
   obtain ⟨e1, e2, e3, e4, e5, e6⟩ := endM hp' hlen q3 hu hd2 hbe
   exact ⟨v, g'.L, rfl, e1, e2, e3, e4, e5, e6, RepT.pure (g := g') (g' := { g with L := g'.L }) (w' := w2) hpv (Same.refl _ _) hrv⟩
  ·exact hr.elim
 cases e with
 | normal => exact fin q1
 | ret => exact fin q1
 | exit id => exact q1.elim
 | goto l => exact q1.elim
 | panic ch => exact q1.elim
 | outgrown => exact q1.elim
theorem fnM_prog (hT : TabOk P tb) (hm : P.follows .mixedOrders = true) {f : FuncId} (fn : Func) {args : List T} {css css' : List (List T)} {r : T} (hf : P.funcs[f]? = some fn) (hb : (fn.name == "runtime.NumGoroutine" || fn.body.isNone) = false) (hn : Nat.ble args.length fn.ntmps = true) (hk : T.noKs args = true) (hp : T.noKss css = true) (hp' : T.noKss css' = true) (hlen : css'.map List.length = css.map List.length)
  (h : aCode P X tb (bodyOf fn) (endQM tb fn.results.toList r fn.ntmps css') (St.headM fn.ntmps args css)) : FnM P X f css args r css' := by
 cases hc : fn.body with
 | none => rw [hc] at hb; simp at hb
 | some c =>
  refine fnM_of hT hm hf hc (enter_of (by rw [hf, Option.map_some, hb])) hn hk hp hp' hlen ?_
  unfold bodyOf at h
  rw [hc] at h
  exact h
theorem st_callM {f : FuncId} {P : Program} {X : En} {st : St} {bs args : List T} {r : T} {K : T → St → Prop} (bx : List Nat) {cs : List T} {css css' : List (List T)} (h : FnM P X f (cs :: css) args r css') (hn : nodupB bx = true) (hb : bxOk st bx bx (cs :: css)) (hl : ArgLes bx bs args) (h2 : r.pure = true) {Z : Prop} (hK : bsetsK bx st bx css' fun st' => K r st') :
  (∃ (bx : List Nat) (cs0 : List T) (css : List (List T)) (args : List T) (r : T) (css' : List (List T)), Cn P X f (cs0 :: css) args r css' ∧ nodupB bx = true ∧ bxOk st bx bx (cs0 :: css) ∧ ArgLes bx bs args ∧ r.pure = true ∧ bsetsK bx st bx css' fun st' => K r st') ∨ Z :=
 .inl ⟨bx, cs, css, args, r, css', h, hn, hb, hl, h2, hK⟩
end Go.Proofs.YtiafggoaedifdaaGreatDoor
