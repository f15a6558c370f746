/- Several texts, one behind the other. The walk without memory: a loop over a map that was written out just ahead, as a piece by itself. Whatever program. The walk without memory: functions that leave a closure behind, which is run at their end. Whatever program. -/
import Derived.Test.YtiafggoaedifdaaGreatDoorP15
import Derived.Maps.RangeRun
/- The walk without memory: a loop over a map that was written out just ahead, as a piece by itself. Whatever program. -/
namespace Go.Proofs.YtiafggoaedifdaaGreatDoor
open Go.RowKit
set_option linter.unusedVariables false
variable {P : Program} {X : En} {base N : Nat} {S : Nat → Prop} {tb : Tab} {F : Fence} {n : Nat}
theorem cell_put {W : World} {r b q : Nat} {o o0 : Obj} {u : Value} (hr : W.heap[r]? = some o0) (h0 : o0.isCells = false) (hc : W.cell? ⟨b, q, none⟩ = some u) : (W.putObj r o).cell? ⟨b, q, none⟩ = some u := by
 by_cases hb : b = r
 ·subst hb
  unfold World.cell? at hc
  dsimp only at hc
  rw [hr] at hc
  cases o0 <;> first | (cases h0; done) | cases hc
 ·rw [cell_old (World.putObj_heap_other hb)]; exact hc
theorem Stp.put {w W : World} {g g' : Gh} {r : Nat} {o o0 : Obj} (h : Stp X base S N w g W g') (hr : W.heap[r]? = some o0) (h0 : o0.isCells = false) (hm : isMapO o0 = false) (hw : w.heap.size ≤ r) : Stp X base S N w g (W.putObj r o) g' := by
 have hu := putObj_upd W r o
 refine ⟨⟨hu.os.trans h.upd.os, hu.tape.trans h.upd.tape, hu.output.trans h.upd.output, Nat.le_trans h.upd.size hu.size, fun k hk hs => ?_⟩, ⟨fun b q u h1 h2 => ?_, h.same.m.trans (.putObj hr hm)⟩, h.newL, h.rho, fun {k o'} hk hc => ?_⟩
 ·rw [World.putObj_heap_other (by omega)]; exact h.upd.block k hk hs
 ·obtain ⟨h3, h4⟩ := h.same.c b q u h1 h2
  exact ⟨h3, cell_put hr h0 h4⟩
 ·have := (Array.getElem?_eq_some_iff.1 hk).1
  rw [World.putObj_heap_other (by omega)]
  exact h.obj hk hc
def rngCode (i0 : Nat) (ops : Array Oper) (b0 i1 : Nat) (oN oX : Oper) (tx b1 i2 : Nat) (ops2 : Array Oper) (body : Code) : Code :=
 .seq (.region i0 ops false) (.block b0 (.loop (.seq (.region i1 #[oN, oX] false) (.seq (.cond (.tmp tx) .skip (.exit b0)) (.block b1 (.seq (.region i2 ops2 false) body))))))
structure RngJ (P : Program) (X : En) (base : Nat) (S : Nat → Prop) (N : Nat) (Wr : Nat → Prop) (it m r : Nat) (es : Array MapEntry) (ck : Nat) (ks vs : List V) (a0 : Act) (w : World) (g : Gh) (st : St) (seen : List Nat) (arr : Array Nat) (a : Act) (W : World) (g' : Gh) : Prop where
 hd : Hd P X base S st a W g'
 stp : Stp X base S N w g W g'
 n : st.n = N
 kp : ∀ t, ¬ Wr t → a.tmps.getD t undef = a0.tmps.getD t undef
 df : ∃ ms, a.defers = marks ms ++ a0.defers ∧ MarksOk w W ms
 it_ : a.eval (.tmp it) = .pointer (some ⟨r, 0, none⟩)
 ro : ∃ cl, W.heap[r]? = some (.mapIter (some m) ck arr cl) ∧ ck ≤ cl
 arr_ : ∀ b, arr.contains b = true ↔ ∃ j, j ∈ seen ∧ (es.toList[j]?).map (·.born) = some b
 hk : RepW W g'.L ks (es.toList.map (·.key))
 hv : RepW W g'.L vs (es.toList.map (·.val))
 mo : W.heap[m]? = some (.map es ck)
 nd : seen.Nodup
 lt : ∀ j ∈ seen, j < ks.length
theorem eval_put_eq (a : Act) (d : Nat) (v : Value) (h : d < a.tmps.size) : (a.put (some d) v).eval (.tmp d) = v := by
 show (a.tmps.setIfInBounds d v).getD d undef = v
 simp [h]
theorem eval_put_ne (a : Act) (d t : Nat) (v : Value) (h : t ≠ d) : (a.put (some d) v).eval (.tmp t) = a.eval (.tmp t) := put_keep a (some d) v t (fun e => h (by cases e; rfl))
theorem op_run (hF : Open F) {ops : Array Oper} {Q : Exit → Act → World → Prop} {i : Nat} {r : List Nat} {o : Oper} {a : Act} {w w' : World} {v : Value} (hi : ops[i]? = some o) (hg : o.guard = none) (hd : ∀ c, o.op ≠ .defer c) (hr : (execOp a.eval o).run P w = .ok (.value v) w') (h : wpOpsIn F n P ops Q r (a.put o.dst v) w') : wpOpsIn F n P ops Q (i :: r) a w := by
 rw [wpOpsIn_cons]
 unfold wpOpIn
 simp only [hi]
 rw [if_pos (by unfold Region.wanted; rw [hg])]
 refine ⟨fun f _ => hF.fn f, ?_⟩
 rw [Oper.semAt_plain F _ _ hd, hr]
 exact h
theorem RepW.get {w : World} {L : Lv} : ∀ {l : List V} {cs : List Value} {i : Nat} {x : V}, RepW w L l cs → l[i]? = some x → ∃ u, cs[i]? = some u ∧ Rep w L x u
 | [], _, _, _, _, h => by simp at h
 | y :: xs, _, 0, x, ⟨u, us, e, r, _⟩, h => by simp at h; subst h; exact ⟨u, by rw [e]; rfl, r⟩
 | y :: xs, _, i + 1, x, ⟨u, us, e, _, rs⟩, h => by
  obtain ⟨z, hz, r⟩ := rs.get (i := i) (by simpa using h)
  exact ⟨z, by rw [e]; simpa using hz, r⟩
theorem nodup_inj {l : List Nat} (h : l.Nodup) {i j x : Nat} (hi : l[i]? = some x) (hj : l[j]? = some x) : i = j := by
 obtain ⟨h1, e1⟩ := List.getElem?_eq_some_iff.1 hi
 obtain ⟨h2, e2⟩ := List.getElem?_eq_some_iff.1 hj
 have hp := List.pairwise_iff_getElem.1 h
 rcases Nat.lt_trichotomy i j with hlt | he | hlt
 ·exact absurd (e1.trans e2.symm) (hp i j h1 h2 hlt)
 ·exact he
 ·exact absurd (e2.trans e1.symm) (hp j i h2 h1 hlt)
theorem rng_frn (hT : TabOk P tb) (hmx : P.follows .mixedOrders = true) {X0 : En} {i0 : Nat} {ops : Array Oper} {b0 i1 : Nat} {oN oX : Oper} {tx b1 i2 : Nat} {ops2 : Array Oper} {body : Code} {M t sm it tn te : Nat} {oR oE : Oper} {ks vs : List V} {st stF : St} {I : List Nat → St}
  (hM : ops.size = M + 1) (hR : ops[M]? = some oR) (hRo : oR.op = .range t (.tmp sm)) (hRd : oR.dst = some it) (hRg : oR.guard = none) (htm : (lk t tb.mps).isSome = true)
  (hNo : oN.op = .next (.tmp it) false) (hNd : oN.dst = some tn) (hNg : oN.guard = none) (hXo : oX.op = .extract (.tmp tn) 0) (hXd : oX.dst = some tx) (hXg : oX.guard = none)
  (hE : ops2[0]? = some oE) (hEo : oE.op = .entry (.tmp it)) (hEd : oE.dst = some te) (hEg : oE.guard = none)
  (hn1 : it < st.n) (hn2 : tn < st.n) (hn3 : tx < st.n) (hne1 : it ≠ tn) (hne2 : it ≠ tx) (hne3 : tn ≠ tx) (hne4 : it ∉ codeW (.region i2 ops2 false) ++ codeW body) (hlen : ks.length = vs.length)
  (h0 : semLit tb (Cn P X0) ops.toList none (ops.toList.take M) st fun st1 => tget st1.env sm = .v (.mp ks vs) ∧ ∃ σ, Wk σ (st1.put (some it) .un) (I []))
  (h1 : ∀ (seen : List Nat) (j : Nat) (k v : V), seen.Nodup → j ∉ seen → (∀ i ∈ seen, i < ks.length) → ks[j]? = some k → vs[j]? = some v → semOps tb (Cn P X0) ops2.toList (ops2.toList.drop 1) ((((I seen).put (some tn) .un).put (some tx) .un).put (some te) (.tup [.v k, .v v])) fun st' => aCode P X0 tb body (blockQ b1 fun e st'' => e = .normal ∧ ∃ σ, Wk σ st'' (I (j :: seen))) st')
  (h2 : ∀ seen : List Nat, seen.Nodup → (∀ i ∈ seen, i < ks.length) → (∀ i, i < ks.length → i ∈ seen) → ∃ σ, Wk σ (((I seen).put (some tn) .un).put (some tx) .un) stF) :
  Frn P X0 (rngCode i0 ops b0 i1 oN oX tx b1 i2 ops2 body) st stF := by
 intro X hX base N S F n Wr a w g hF hW hl hd hn
 have hWops : ∀ (j : Nat) (o : Oper) (d : Nat), ops[j]? = some o → o.dst = some d → Wr d := fun j o d hj ho => hW d (List.mem_append_left _ (List.mem_filterMap.2 ⟨o, by simpa using Array.mem_of_getElem? hj, ho⟩))
 have hWl : ∀ t, t ∈ codeW (.region i1 #[oN, oX] false) ∨ t ∈ codeW (.region i2 ops2 false) ∨ t ∈ codeW body → Wr t := fun t ht => hW t (by
  refine List.mem_append_right _ ?_
  show t ∈ codeW (.region i1 #[oN, oX] false) ++ ([] ++ [] ++ (codeW (.region i2 ops2 false) ++ codeW body))
  rcases ht with ht | ht | ht
  ·exact List.mem_append_left _ ht
  ·exact List.mem_append_right _ (by simp [ht])
  ·exact List.mem_append_right _ (by simp [ht]))
 have hWit : Wr it := hWops M oR it hR hRd
 have hWtn : Wr tn := hWl tn (.inl (by simp [codeW, hNd]))
 have hWtx : Wr tx := hWl tx (.inl (by simp [codeW, hXd]))
 have hsz : a.tmps.size = st.n := hd.sz
 obtain ⟨q0, hq0⟩ := Option.isSome_iff_exists.1 htm
 obtain ⟨kt, et, ei, t1, _⟩ := hT.mps hq0
 refine wpIn_seq (wpIn_region ?_)
 rw [List.range_eq_range', hM, show List.range' 0 (M + 1) = List.range' 0 M ++ [M] by rw [List.range'_concat]; simp]
 refine lit_none hX hF hT hWops (M := M) (by omega) (K := fun st1 => tget st1.env sm = .v (.mp ks vs) ∧ ∃ σ, Wk σ (st1.put (some it) .un) (I [])) (tl := [M]) ?_ M 0 st a w g (by omega) (by rw [List.drop_zero]; exact h0) ⟨hd, Stp.refl _ _ _ _ _ _, rfl, hn, fun _ _ => rfl⟩
 rintro a1 w1 st1 g1 ⟨hsm, σ, hw⟩ hL
 have hev := hL.hd.env sm
 rw [hsm] at hev
 obtain ⟨m, es, ck, hme, hmo, ⟨hb1, hb2⟩, hk, hv⟩ := hev
 have hkl := hk.length
 rw [List.length_map] at hkl
 have hrun : (execOp a1.eval oR).run P w1 = .ok (.value (.pointer (some ⟨w1.heap.size, 0, none⟩))) (w1.alloc (.mapIter (some m) ck #[] ck)) := by
  unfold execOp
  simp only [hRo, hme, Sem.run_bind, run_range_map w1 t kt et m es ck t1 hmo, Result.andThen_ok]
  rfl
 refine op_run hF hR hRg (by rw [hRo]; intro c h; cases h) hrun ?_
 rw [hRd]
 have hbel : Below w1.heap.size w1 (w1.alloc (.mapIter (some m) ck #[] ck)) := below_new w1 _
 obtain ⟨d1, d2, _⟩ := hL.hd.below (N := N) hbel (Same.of_below hbel) .inl (fun {b o} hl' => by obtain ⟨u, hu⟩ := hL.hd.mm.Lc hl'; exact ⟨u, cell_below hu hbel⟩)
 have d3 := d1.put (some it) (t := .un) (v := .pointer (some ⟨w1.heap.size, 0, none⟩)) trivial
 obtain ⟨d4, d5⟩ := d3.wk (N := N) hw
 have hsz1 : a1.tmps.size = st.n := by rw [hL.hd.sz, hL.n, hn]
 have hwle : w.heap.size ≤ w1.heap.size := hL.stp.upd.size
 have j0 : RngJ P X base S N Wr it m w1.heap.size es ck ks vs a w g (I []) [] #[] (a1.put (some it) (.pointer (some ⟨w1.heap.size, 0, none⟩))) (w1.alloc (.mapIter (some m) ck #[] ck)) (Gh.ren { g1 with L := g1.L } σ) := by
  refine ⟨d4, (hL.stp.trans d2).trans d5, hw.1.trans ((put_n _ _ _).trans hL.n), fun t ht => (put_keep _ _ _ t (fun e => ht (by cases e; exact hWit))).trans (hL.kp t ht), ⟨[], (put_defers _ _ _).trans hL.df, MarksOk.nil _ _⟩, eval_put_eq _ _ _ (by omega), ⟨ck, heap_alloc_new w1 _, Nat.le_refl _⟩, fun b => ?_, RepW.mono (Same.of_below hbel) _ _ hk, RepW.mono (Same.of_below hbel) _ _ hv, ?_, List.nodup_nil, fun j hj => by cases hj⟩
  ·simp
  ·rw [heap_alloc_old _ _ (Array.getElem?_eq_some_iff.1 hmo).1]; exact hmo
 clear d1 d2 d3 d4 d5 hrun hk hv
 generalize hr : w1.heap.size = r at j0 hwle
 generalize w1.alloc (.mapIter (some m) ck #[] ck) = W0 at j0
 generalize a1.put (some it) (.pointer (some ⟨r, 0, none⟩)) = A0 at j0
 generalize Gh.ren { g1 with L := g1.L } σ = G0 at j0
 show (Code.block b0 _).wpIn F n P _ A0 W0
 have hrE : ¬ X.Eb r := fun hE => by have := X.lt hd.E hE; omega
 have gete : ∀ {e : MapEntry}, e ∈ es.toList → ∃ j, es.toList[j]? = some e := fun {e} he => List.getElem?_of_mem he
 refine wpIn_block (wpIn_loop_ghost (fun k a2 W => ∃ seen arr g2, RngJ P X base S N Wr it m r es ck ks vs a w g (I seen) seen arr a2 W g2 ∧ k = (leftOf es arr).size) (leftOf es #[]).size ⟨[], #[], G0, j0, rfl⟩ ?_)
 rintro k a2 W ⟨seen, arr, g2, hj, rfl⟩
 obtain ⟨cl, hro, hcl⟩ := hj.ro
 have hsz2 : a2.tmps.size = st.n := by rw [hj.hd.sz, hj.n, hn]
 refine wpIn_seq (wpIn_region ?_)
 show wpOpsIn F n P #[oN, oX] _ [0, 1] a2 W
 -- the step, whatever comes
 have step : ∀ (v : Value) (W1 : World) {Q : Exit → Act → World → Prop} (b : Bool) (hv : ∃ cs : Array Value, v = .tuple cs ∧ cs[0]? = some (.bool b)) (hrunN : (Instr.next (.pointer (some ⟨r, 0, none⟩)) false oN.type).run P W = .ok v W1) (h : Q .normal ((a2.put (some tn) v).put (some tx) (.bool b)) W1), wpOpsIn F n P #[oN, oX] Q [0, 1] a2 W := fun v W1 {Q} b ⟨cs, hv, hcs⟩ hrunN h => by
  refine op_run hF (o := oN) rfl hNg (by rw [hNo]; intro c h; cases h) (v := v) (w' := W1) ?_ ?_
  ·unfold execOp
   simp only [hNo, hj.it_, Sem.run_bind, hrunN, Result.andThen_ok]
   rfl
  refine op_run hF (o := oX) rfl hXg (by rw [hXo]; intro c h; cases h) (v := .bool b) (w' := W1) ?_ ?_
  ·rw [hNd]
   have he : (a2.put (some tn) v).eval (.tmp tn) = .tuple cs := by rw [eval_put_eq _ _ _ (by omega), hv]
   unfold execOp
   simp [hXo, he, Instr.extract, hcs]
  ·rw [hNd, hXd]; exact h
 have hev : ∀ (v : Value) (b : Bool), ((a2.put (some tn) v).put (some tx) (.bool b)).eval (.tmp tx) = .bool b := fun v b => eval_put_eq _ _ _ (by rw [put_size]; omega)
 have hitP : ∀ (v u : Value), ((a2.put (some tn) v).put (some tx) u).eval (.tmp it) = .pointer (some ⟨r, 0, none⟩) := fun v u => by rw [eval_put_ne _ _ _ _ hne2, eval_put_ne _ _ _ _ hne1]; exact hj.it_
 have hkpP : ∀ (v u : Value) (t : Nat), ¬ Wr t → ((a2.put (some tn) v).put (some tx) u).tmps.getD t undef = a.tmps.getD t undef := fun v u t ht => by
  rw [put_keep _ _ _ t (fun e => ht (by cases e; exact hWtx)), put_keep _ _ _ t (fun e => ht (by cases e; exact hWtn))]
  exact hj.kp t ht
 have hdfP : ∀ (v u : Value), ((a2.put (some tn) v).put (some tx) u).defers = a2.defers := fun v u => (put_defers _ _ _).trans (put_defers _ _ _)
 rcases run_next_at (P := P) W oN.type r m ck cl arr es ck hro hj.mo hb2 hcl with ⟨hz, hrunN⟩ | ⟨e, he, w1', hal, hrunN⟩
 ·-- none is left
  refine step _ _ false ⟨_, rfl, rfl⟩ hrunN ?_
  have hall := all_seen es arr hz
  obtain ⟨σF, hwF⟩ := h2 seen hj.nd hj.lt (fun i hi => by
   have hil : i < es.toList.length := by omega
   have := hall _ (List.getElem_mem hil)
   obtain ⟨j, hjs, hjb⟩ := (hj.arr_ _).1 this
   have : j = i := by
    have hjl : j < es.toList.length := by have := hj.lt j hjs; omega
    rw [List.getElem?_eq_getElem hjl, Option.map_some] at hjb
    injection hjb with hjb
    exact nodup_inj hb1 (x := es.toList[i].born) (by rw [List.getElem?_map, List.getElem?_eq_getElem hjl, Option.map_some, hjb]) (by rw [List.getElem?_map, List.getElem?_eq_getElem hil]; rfl)
   exact this ▸ hjs)
  have d1 := (hj.hd.put (some tn) (t := .un) (v := .tuple #[.bool false]) trivial).put (some tx) (t := .un) (v := .bool false) trivial
  obtain ⟨d2, d3⟩ := d1.wk (N := N) hwF
  refine wpIn_seq (wpIn_cond_false (hev _ _) (wpIn_exit ?_))
  show (if b0 = b0 then _ else _)
  rw [if_pos rfl]
  obtain ⟨ms, m1, m2⟩ := hj.df
  exact ⟨stF, _, ⟨rfl, rfl⟩, d2, hj.stp.trans d3, hwF.1.trans ((put_n _ _ _).trans ((put_n _ _ _).trans hj.n)), hkpP _ _, ms, (hdfP _ _).trans m1, m2⟩
 ·-- an entry
  obtain ⟨hee, hns⟩ := mem_left he
  obtain ⟨j, hje⟩ := gete hee
  have hjl : j < es.toList.length := (List.getElem?_eq_some_iff.1 hje).1
  have hjn : j ∉ seen := fun hm => by
   have := (hj.arr_ e.born).2 ⟨j, hm, by rw [hje]; rfl⟩
   rw [this] at hns; cases hns
  refine step _ _ true ⟨_, rfl, rfl⟩ hrunN ?_
  -- the world behind it
  have hdW : Hd P X base S (I seen) a2 w1' g2 ∧ Stp X base S N w g w1' g2 ∧ (∀ k : Nat, w1'.heap[k]? = W.heap[k]?) ∧ Same g2.L W g2.L w1' := by
   rcases hal with rfl | rfl
   ·exact ⟨hj.hd, hj.stp, fun _ => rfl, Same.refl _ _⟩
   ·exact ⟨hj.hd.drew, hj.stp.trans Stp.drew, fun _ => rfl, ⟨fun _ _ _ h k => ⟨h, k⟩, fun _ _ h _ => h⟩⟩
  obtain ⟨e1, e2, e3, e4⟩ := hdW
  have hro1 : w1'.heap[r]? = some (.mapIter (some m) ck arr cl) := (e3 r).trans hro
  have f1 := e1.putObj (.mapIter (some m) ck (arr.push e.born) ck) hro1 rfl rfl hrE
  have f2 := e2.put (o := .mapIter (some m) ck (arr.push e.born) ck) hro1 rfl rfl hwle
  have f3 : Same g2.L W g2.L (w1'.putObj r (.mapIter (some m) ck (arr.push e.born) ck)) := e4.trans ⟨fun b q u h1 h2 => ⟨h1, cell_put hro1 rfl h2⟩, .putObj hro1 rfl⟩
  have hmr : m ≠ r := fun e0 => by have h0 := hj.mo; rw [e0, hro] at h0; cases h0
  have g1' : (w1'.putObj r (.mapIter (some m) ck (arr.push e.born) ck)).heap[m]? = some (.map es ck) := by rw [World.putObj_heap_other hmr, e3]; exact hj.mo
  have g2' : (w1'.putObj r (.mapIter (some m) ck (arr.push e.born) ck)).heap[r]? = some (.mapIter (some m) ck (arr.push e.born) ck) := World.putObj_heap_same (Array.getElem?_eq_some_iff.1 hro1).1
  show (Code.seq _ _).wpIn F n P _ _ (w1'.putObj r (.mapIter (some m) ck (arr.push e.born) ck))
  generalize hW1 : w1'.putObj r (.mapIter (some m) ck (arr.push e.born) ck) = W1 at f1 f2 f3 g1' g2'
  have k1 := RepW.mono f3 _ _ hj.hk
  have k2 := RepW.mono f3 _ _ hj.hv
  obtain ⟨kv, hkv, kr⟩ : ∃ kv, ks[j]? = some kv ∧ Rep W1 g2.L kv e.key := by
   have hjk : j < ks.length := by omega
   obtain ⟨u, hu, hr'⟩ := k1.get (List.getElem?_eq_getElem hjk)
   rw [List.getElem?_map, hje] at hu
   cases hu
   exact ⟨_, List.getElem?_eq_getElem hjk, hr'⟩
  obtain ⟨vv, hvv, vr⟩ : ∃ vv, vs[j]? = some vv ∧ Rep W1 g2.L vv e.val := by
   have hjv : j < vs.length := by omega
   obtain ⟨u, hu, hr'⟩ := k2.get (List.getElem?_eq_getElem hjv)
   rw [List.getElem?_map, hje] at hu
   cases hu
   exact ⟨_, List.getElem?_eq_getElem hjv, hr'⟩
  have hbody := h1 seen j kv vv hj.nd hjn hj.lt hkv hvv
  refine wpIn_seq (wpIn_cond_true (hev _ _) (wpIn_skip ?_))
  show (Code.block b1 _).wpIn F n P _ _ W1
  refine wpIn_block (wpIn_seq (wpIn_region ?_))
  have hs2 : 0 < ops2.size := (Array.getElem?_eq_some_iff.1 hE).1
  rw [List.range_eq_range', show ops2.size = (ops2.size - 1) + 1 by omega, List.range'_succ]
  refine op_run hF hE hEg (by rw [hEo]; intro c h; cases h) (v := .tuple #[e.key, e.val]) (w' := W1) ?_ ?_
  ·unfold execOp
   simp only [hEo, hitP, Sem.run_bind, run_entry_at (P := P) W1 r m ck arr es ck e g2' g1' hee hb1, Result.andThen_ok]
   rfl
  rw [hEd]
  have d1 := ((f1.put (some tn) (t := .un) (v := .tuple #[.bool true, e.key, e.val]) trivial).put (some tx) (t := .un) (v := .bool true) trivial).put (some te) (t := .tup [.v kv, .v vv]) (v := .tuple #[e.key, e.val]) ⟨_, rfl, _, _, rfl, kr, _, _, rfl, vr, rfl⟩
  have hn5 : ((((I seen).put (some tn) .un).put (some tx) .un).put (some te) (.tup [.v kv, .v vv])).n = N := by rw [put_n, put_n, put_n]; exact hj.n
  have hWo : ∀ (j : Nat) (o : Oper) (d : Nat), ops2[j]? = some o → o.dst = some d → d ∈ codeW (.region i2 ops2 false) ++ codeW body := fun j o d hj' ho => List.mem_append_left _ (List.mem_filterMap.2 ⟨o, by simpa using Array.mem_of_getElem? hj', ho⟩)
  have hteW : te ∈ codeW (.region i2 ops2 false) ++ codeW body := hWo 0 oE te hE hEd
  have hlW : ∀ l, F.round = some l → ∃ r, W1.heap[l]? = some (.loop r) := fun l hl' => by
   obtain ⟨r', hr'⟩ := hl l hl'
   exact ⟨r', f2.obj hr' rfl⟩
  refine ops_wp (n := n) hX hF hT (Wr := (· ∈ codeW (.region i2 ops2 false) ++ codeW body)) (a0 := ((a2.put (some tn) (.tuple #[.bool true, e.key, e.val])).put (some tx) (.bool true)).put (some te) (.tuple #[e.key, e.val])) (w0 := W1) (g0 := g2) hWo (K := fun st' => aCode P X0 tb body (blockQ b1 fun e st'' => e = .normal ∧ ∃ σ, Wk σ st'' (I (j :: seen))) st') ?_ (ops2.size - 1) 1 _ _ W1 g2 (by omega) hbody d1 (Stp.refl _ _ _ _ _ _) rfl hn5 (fun _ _ => rfl)
  intro a6 w6 st6 g6 hk6 hd6 hst6 hdf6 hn6 hkp6
  refine wpIn_mono (code_wp hT hmx body X hX base N S F n hF (· ∈ codeW (.region i2 ops2 false) ++ codeW body) (fun t ht => List.mem_append_right _ ht) _ st6 a6 w6 g6 (fun ch s h => by cases h.1) (fun l hl' => by obtain ⟨r', hr'⟩ := hlW l hl'; exact ⟨r', hst6.obj hr' rfl⟩) hk6 hd6 hn6) ?_
  rintro ex a7 w7 ⟨st7, g7, q1, q2, q3, q4, q5, ms, q6, q7⟩
  have fin : (∃ σ, Wk σ st7 (I (j :: seen))) → ∃ k', k' < (leftOf es arr).size ∧ ∃ seen arr g2, RngJ P X base S N Wr it m r es ck ks vs a w g (I seen) seen arr a7 w7 g2 ∧ k' = (leftOf es arr).size := fun ⟨σ, hw⟩ => by
   obtain ⟨p1, p2⟩ := q2.wk (N := N) hw
   have hs67 := hst6.trans q3
   obtain ⟨ms0, m1, m2⟩ := hj.df
   have hdf7 : a7.defers = marks ms ++ a2.defers := by rw [q6, hdf6, put_defers, hdfP]
   refine ⟨_, left_shrinks es arr e he, j :: seen, arr.push e.born, _, ⟨p1, (f2.trans hs67).trans p2, hw.1.trans q4, fun t ht => ?_, ⟨ms ++ ms0, by rw [hdf7, m1]; simp [marks], List.nodup_append.2 ⟨q7.1, m2.1, fun r1 hr1 r2 hr2 => ?_⟩, fun r1 hr1 => ?_⟩, ?_, ⟨ck, hs67.obj g2' rfl, Nat.le_refl _⟩, fun b => ?_, RepW.mono (p2.same) _ _ (RepW.mono hs67.same _ _ k1), RepW.mono (p2.same) _ _ (RepW.mono hs67.same _ _ k2), hs67.obj g1' rfl, List.nodup_cons.2 ⟨hjn, hj.nd⟩, fun i hi => ?_⟩, rfl⟩
   ·have ht2 : t ∉ codeW (.region i2 ops2 false) ++ codeW body := fun hm => ht (hWl t ((List.mem_append.1 hm).elim (fun h => .inr (.inl h)) (fun h => .inr (.inr h))))
    rw [q5 t ht2, hkp6 t ht2, put_keep _ _ _ t (fun e => ht2 (by cases e; exact hteW))]
    exact hkpP _ _ t ht
   ·rintro rfl
    have h1 := (q7.2 r1 hr1).1
    have h2 := (m2.2 r1 hr2).2
    have h3 := (Array.getElem?_eq_some_iff.1 h2).1
    have h4 : W.heap.size ≤ w6.heap.size := by
     have h5 := hst6.upd.size
     have h6 : w1'.heap.size = W.heap.size := by rcases hal with rfl | rfl <;> rfl
     rw [← hW1, World.putObj_size] at h5
     omega
    omega
   ·rcases List.mem_append.1 hr1 with hr1 | hr1
    ·have h5 := f2.upd.size
     have h6 := hst6.upd.size
     exact ⟨by have := (q7.2 r1 hr1).1; omega, (q7.2 r1 hr1).2⟩
    ·have h2 := (m2.2 r1 hr1).2
     have hne : r1 ≠ r := fun e => by rw [e, hro] at h2; cases h2
     refine ⟨(m2.2 r1 hr1).1, hs67.obj ?_ rfl⟩
     rw [← hW1, World.putObj_heap_other hne, e3]; exact h2
   ·show a7.tmps.getD it undef = _
    rw [q5 it hne4, hkp6 it hne4, put_keep _ _ _ it (fun e => hne4 (by cases e; exact hteW))]
    exact hitP _ _
   ·rw [contains_push, Bool.or_eq_true, hj.arr_ b]
    constructor
    ·rintro (⟨i, h1, h2⟩ | h)
     ·exact ⟨i, List.mem_cons_of_mem _ h1, h2⟩
     ·have : b = e.born := by simpa using h
      exact ⟨j, List.mem_cons_self, by rw [hje, this]; rfl⟩
    ·rintro ⟨i, h1, h2⟩
     rcases List.mem_cons.1 h1 with rfl | h1
     ·rw [hje] at h2
      cases h2
      exact .inr (by simp)
     ·exact .inl ⟨i, h1, h2⟩
   ·rcases List.mem_cons.1 hi with rfl | hi
    ·omega
    ·exact hj.lt i hi
  cases ex with
  | normal => exact fin q1.2
  | exit id =>
   unfold blockQ at q1
   dsimp only at q1
   split at q1
   ·rename_i hb
    have hid : id = b1 := Nat.eq_of_beq_eq_true hb
    subst hid
    show (if id = id then _ else _)
    rw [if_pos rfl]
    exact fin q1.2
   ·cases q1.1
  | goto l => cases q1.1
  | ret => cases q1.1
  | panic c => cases q1.1
  | outgrown => cases q1.1
end Go.Proofs.YtiafggoaedifdaaGreatDoor
/- The walk without memory: functions that leave a closure behind, which is run at their end. Whatever program. -/
namespace Go.Proofs.YtiafggoaedifdaaGreatDoor
open Go.RowKit
set_option linter.unusedVariables false
variable {P : Program} {X : En} {tb : Tab}
theorem region_wp (hT : TabOk P tb) (hm : P.follows .mixedOrders = true) {X0 : En} {id : Nat} {ops : Array Oper} {draw : Bool} {X : En} (hX : X.Le X0) {base N : Nat} {S : Nat → Prop} {F : Fence} {n : Nat} (hF : Open F) {Wr : Nat → Prop} (hWr : ∀ (j : Nat) (o : Oper) (d : Nat), ops[j]? = some o → o.dst = some d → Wr d) {Q : Exit → St → Prop} {st : St} {a : Act} {w : World} {g : Gh} {R : Exit → Act → World → Prop}
  (fin : ∀ a' w' st' g', Q .normal st' → Hd P X base S st' a' w' g' → Stp X base S N w g w' g' → a'.defers = a.defers → st'.n = N → (∀ t, ¬ Wr t → a'.tmps.getD t undef = a.tmps.getD t undef) → R .normal a' w') (hp : ∀ c a w, ¬ R (.panic c) a w)
  (h : aCode P X0 tb (.region id ops draw) Q st) (hd : Hd P X base S st a w g) (hn : st.n = N) : (Code.region id ops draw).wpIn F n P R a w := by
 cases draw with
 | false =>
  refine wpIn_region ?_
  rw [List.range_eq_range']
  unfold aCode at h
  dsimp only at h
  split at h
  rotate_left
  ·have := lit_none (n := n) (Q := R) hX hF hT hWr (K := Q .normal) (M := ops.size) (Nat.le_refl _) (tl := []) (fun a' w' st' g' hq h => fin a' w' st' g' hq h.hd h.stp h.df h.n h.kp) ops.size 0 st a w g (by omega) (by rw [List.take_of_length_le (by rw [Array.length_toList]; exact Nat.le_refl _)]; exact h) ⟨hd, Stp.refl _ _ _ _ _ _, rfl, hn, fun _ _ => rfl⟩
   rw [List.append_nil] at this
   exact this
  exact ops_wp hX hF hT (K := Q .normal) (a0 := a) (w0 := w) (g0 := g) hWr fin ops.size 0 st a w g (by omega) h hd (Stp.refl _ _ _ _ _ _) rfl hn (fun _ _ => rfl)
 | true =>
  obtain ⟨sch0, hok, hs⟩ := h
  generalize sch0.getD (List.range ops.size) = sch at hok hs
  unfold regionOk at hok
  simp only [Bool.and_eq_true] at hok
  obtain ⟨⟨⟨o0, o1⟩, o2⟩, o3⟩ := hok
  refine wpIn_region_draw fun t => ?_
  simp only [Region.schedule, hm, Bool.true_or, if_true]
  have lnk : Lnk P X base S N Wr a w g st a { w with drawn := w.drawn + 1 } g := ⟨hd.drew, Stp.drew, rfl, hn, fun _ _ => rfl⟩
  have hqp := hp
  have fin' : ∀ a' w' st' g', Q .normal st' → Lnk P X base S N Wr a w g st' a' w' g' → R .normal a' w' := fun a' w' st' g' hq h => fin a' w' st' g' hq h.hd h.stp h.df h.n h.kp
  have anyk : AnyK F n P ops (R) ops.size (Array.replicate ops.size false) g st.lv a { w with drawn := w.drawn + 1 } := by
   by_cases hm9 : 9999 ∈ sch
   ·cases sch with
    | nil => cases hm9
    | cons i r =>
     unfold takeOk at o3
     by_cases hi : i = 9999
     ·subst hi
      unfold semSch at hs
      rw [show Nat.beq 9999 9999 = true from rfl] at hs
      dsimp only at hs
      obtain ⟨t, ht, st0, hs, hk⟩ := hs
      rw [Bool.and_eq_true] at ht
      rw [Array.length_toList, Array.toArray_toList] at ht
      exact (tr_anyK (n := n) (Q := R) hX hF hT o1 o2 (K := fun st' => St.le st' st0) hWr (fun a' w' st' g' hq h => fin' a' w' st0 g' hk ⟨h.hd.le' hq, h.stp, h.df, hq.n.symm.trans h.n, h.kp⟩) hqp t _ st a _ g hs lnk).1 ops.size (Nat.le_of_ble_eq_true ht.1) ht.2
     ·exact (no9999 o3 hm9 hi).elim
   ·exact sch_anyK (n := n) (Q := R) hX hF hT o1 o2 (K := Q .normal) hWr fin' hqp sch ops.size (Array.replicate ops.size false) st a _ g (Nat.le_of_ble_eq_true o0) hm9 o3 hs lnk
  have := anyk.any
  exact wpAnyIn_sound ops.size t _ a _ this
def simpC : Code → Bool
 | .skip => true
 | .region _ _ _ => true
 | .seq a b => !isFrn a && (simpC a && simpC b)
 | .cond _ a b => simpC a && simpC b
 | .block _ b => simpC b
 | .exit _ => true
 | .ret => true
 | _ => false
def AftS (P : Program) (X : En) (base : Nat) (S : Nat → Prop) (N : Nat) (Wr : Nat → Prop) (a : Act) (w : World) (g : Gh) (Q : Exit → St → Prop) : Exit → Act → World → Prop := fun e a' w' =>
 ∃ st' g', Q e st' ∧ Hd P X base S st' a' w' g' ∧ Stp X base S N w g w' g' ∧ st'.n = N ∧ a'.defers = a.defers ∧ ∀ t, ¬ Wr t → a'.tmps.getD t undef = a.tmps.getD t undef
theorem simp_wp (hT : TabOk P tb) (hm : P.follows .mixedOrders = true) {X0 : En} : ∀ (c : Code), simpC c = true → ∀ (X : En) (hX : X.Le X0) (base N : Nat) (S : Nat → Prop) (F : Fence) (n : Nat) (hF : Open F) (Wr : Nat → Prop) (hW : ∀ t ∈ codeW c, Wr t) (Q : Exit → St → Prop) (st : St) (a : Act) (w : World) (g : Gh), (∀ ch st, ¬ Q (.panic ch) st) → aCode P X0 tb c Q st → Hd P X base S st a w g → st.n = N → c.wpIn F n P (AftS P X base S N Wr a w g Q) a w := by
 intro c
 have out : ∀ {X : En} {base N : Nat} {S : Nat → Prop} {Wr : Nat → Prop} {Q : Exit → St → Prop} {e : Exit} {st : St} {a : Act} {w : World} {g : Gh}, Q e st → Hd P X base S st a w g → st.n = N → AftS P X base S N Wr a w g Q e a w := fun h hd hn => ⟨_, _, h, hd, Stp.refl _ _ _ _ _ _, hn, rfl, fun _ _ => rfl⟩
 induction c with
 | skip => intro _ X hX base N S F n hF Wr hW Q st a w g hp h hd hn; exact wpIn_skip (out h hd hn)
 | exit id => intro _ X hX base N S F n hF Wr hW Q st a w g hp h hd hn; exact wpIn_exit (out h hd hn)
 | ret => intro _ X hX base N S F n hF Wr hW Q st a w g hp h hd hn; exact wpIn_ret (out h hd hn)
 | label l => intro hs; cases hs
 | goto l => intro hs; cases hs
 | scope b => intro hs; cases hs
 | refuse s => intro hs; cases hs
 | loop b => intro hs; cases hs
 | rangeFunc fo ps x y => intro hs; cases hs
 | region id ops draw =>
  intro _ X hX base N S F n hF Wr hW Q st a w g hp h hd hn
  exact region_wp hT hm hX hF (Wr := Wr) (fun j o d hj ho => hW d (List.mem_filterMap.2 ⟨o, by simpa using Array.mem_of_getElem? hj, ho⟩)) (fun a' w' st' g' h1 h2 h3 h4 h5 h6 => ⟨st', g', h1, h2, h3, h5, h4, h6⟩) (fun c a w ⟨st', _, h, _⟩ => hp c st' h) h hd hn
 | seq x y ihx ihy =>
  intro hs X hX base N S F n hF Wr hW Q st a w g hp h hd hn
  rw [simpC, Bool.and_eq_true, Bool.and_eq_true] at hs
  unfold aCode at h
  split at h
  rotate_left
  ·rename_i hf; rw [hf] at hs; cases hs.1
  refine wpIn_seq (wpIn_mono (ihx hs.2.1 X hX base N S F n hF Wr (fun t ht => hW t (List.mem_append_left _ ht)) (seqQ (fun st' => aCode P X0 tb y Q st') Q) st a w g (fun ch st' hh => hp ch st' hh) h hd hn) ?_)
  rintro e a1 w1 ⟨st', g', q1, q2, q3, q4, q5, q6⟩
  cases e with
  | normal =>
   refine wpIn_mono (ihy hs.2.2 X hX base N S F n hF Wr (fun t ht => hW t (List.mem_append_right _ ht)) Q st' a1 w1 g' hp q1 q2 q4) ?_
   rintro e a2 w2 ⟨st2, g2, p1, p2, p3, p4, p5, p6⟩
   exact ⟨st2, g2, p1, p2, q3.trans p3, p4, p5.trans q5, fun t ht => (p6 t ht).trans (q6 t ht)⟩
  | exit id => exact ⟨st', g', q1, q2, q3, q4, q5, q6⟩
  | goto l => exact ⟨st', g', q1, q2, q3, q4, q5, q6⟩
  | ret => exact ⟨st', g', q1, q2, q3, q4, q5, q6⟩
  | panic ch => exact ⟨st', g', q1, q2, q3, q4, q5, q6⟩
  | outgrown => exact ⟨st', g', q1, q2, q3, q4, q5, q6⟩
 | cond c x y ihx ihy =>
  intro hs X hX base N S F n hF Wr hW Q st a w g hp h hd hn
  rw [simpC, Bool.and_eq_true] at hs
  unfold aCode at h
  have hc := hd.ev c
  split at h
  ·rename_i hq
   rw [hq] at hc
   exact wpIn_cond_true hc (ihx hs.1 X hX base N S F n hF Wr (fun t ht => hW t (List.mem_append_left _ ht)) Q st a w g hp h hd hn)
  ·rename_i hq
   rw [hq] at hc
   exact wpIn_cond_false hc (ihy hs.2 X hX base N S F n hF Wr (fun t ht => hW t (List.mem_append_right _ ht)) Q st a w g hp h hd hn)
  ·exact h.elim
 | block id b ih =>
  intro hs X hX base N S F n hF Wr hW Q st a w g hp h hd hn
  refine wpIn_block (wpIn_mono (ih hs X hX base N S F n hF Wr hW (blockQ id Q) st a w g (fun ch st' hh => hp ch st' hh) h hd hn) ?_)
  rintro e a1 w1 ⟨st', g', q1, q2⟩
  cases e with
  | exit j =>
   unfold blockQ at q1
   dsimp only at q1
   split at q1
   ·rename_i hb
    have : j = id := Nat.eq_of_beq_eq_true hb
    simp only [Exit.inBlock, this, if_true]
    exact ⟨st', g', q1, q2⟩
   ·rename_i hb
    have : j ≠ id := fun e => by rw [e, Nat.beq_refl] at hb; cases hb
    simp only [Exit.inBlock, this, if_false]
    exact ⟨st', g', q1, q2⟩
  | normal => exact ⟨st', g', q1, q2⟩
  | goto l => exact ⟨st', g', q1, q2⟩
  | ret => exact ⟨st', g', q1, q2⟩
  | panic ch => exact ⟨st', g', q1, q2⟩
  | outgrown => exact ⟨st', g', q1, q2⟩
def FnD (P : Program) (X : En) (f : FuncId) (css : List (List T)) (args : List T) (css' : List (List T)) : Prop := (∀ (vs : Array Value) (w : World), (callFunc f vs).run P w = .ok (.enter f vs) w) ∧ css'.map List.length = css.map List.length ∧ ∀ (u : FrameMode) (w : World) (g : Gh) (vs : List Value), X.E w → (∀ {b o}, g.L b o → ∃ u, w.cell? ⟨b, o, none⟩ = some u) → MemB P X w g css → RepTs P w g args vs →
 CallsDIn Fence.wide 0 P f vs.toArray u w fun e u' w' => u' = u ∧ ∃ v L', e = .returned v ∧ Upd (fun b => ∃ j, j < css.length ∧ b = (g.ρ j).1) w w' ∧ Same g.L w L' w' ∧ (∀ {b o}, L' b o → g.L b o ∨ w.heap.size ≤ b) ∧ (∀ {b o}, L' b o → ∃ u, w'.cell? ⟨b, o, none⟩ = some u) ∧ MemB P X w' { g with L := L' } css' ∧ (∀ {k : Nat} {o : Obj}, w.heap[k]? = some o → o.isCells = false → w'.heap[k]? = some o)
def endD (n : Nat) (css' : List (List T)) : Exit → St → Prop
 | .normal, st => bxEnd st n (shiftTss n css')
 | .ret, st => bxEnd st n (shiftTss n css')
 | _, _ => False
theorem fnD_prog (hT : TabOk P tb) (hm : P.follows .mixedOrders = true) {f : FuncId} (fn : Func) {args : List T} {css css' : List (List T)} (hf : P.funcs[f]? = some fn) (hb : (fn.name == "runtime.NumGoroutine" || fn.body.isNone) = false) (hs : simpC (bodyOf fn) = true) (hres : fn.results.isEmpty = true) (hn : Nat.ble args.length fn.ntmps = true) (hk : T.noKs args = true) (hp : T.noKss css = true) (hp' : T.noKss css' = true) (hlen : css'.map List.length = css.map List.length)
  (h : aCode P X tb (bodyOf fn) (endD fn.ntmps css') (St.headM fn.ntmps args css)) : FnD P X f css args css' := by
 cases hc : fn.body with
 | none => rw [hc] at hb; simp at hb
 | some c =>
  have hbd : bodyOf fn = c := by unfold bodyOf; rw [hc]
  rw [hbd] at hs h
  refine ⟨enter_of (by rw [hf, Option.map_some, hb]), hlen, fun u w g vs hE hL hmb hargs => ?_⟩
  have hd := headM (n := fn.ntmps) hn hk hp hE hL hmb hargs
  have hw := simp_wp hT hm c hs X ⟨fun _ h => h, fun _ h => h⟩ w.heap.size fn.ntmps _ Fence.wide 0 (.inl rfl) (fun _ => True) (fun _ _ => trivial) _ _ _ w _ (fun ch st h => h.elim) h hd rfl
  refine callsDIn_of_wp hf hc trivial (R := fun e w' => ∃ v L', e = .returned v ∧ Upd (fun b => ∃ j, j < css.length ∧ b = (g.ρ j).1) w w' ∧ Same g.L w L' w' ∧ (∀ {b o}, L' b o → g.L b o ∨ w.heap.size ≤ b) ∧ (∀ {b o}, L' b o → ∃ u, w'.cell? ⟨b, o, none⟩ = some u) ∧ MemB P X w' { g with L := L' } css' ∧ (∀ {k : Nat} {o : Obj}, w.heap[k]? = some o → o.isCells = false → w'.heap[k]? = some o)) (wpIn_mono hw ?_)
  rintro e a' w' ⟨st', g', q1, q2, q3, q4, q5, q6⟩
  have fin : bxEnd st' fn.ntmps (shiftTss fn.ntmps css') → a'.defers = [] ∧ ∃ v, (results fn a'.tmps).run P w' = .ok v w' ∧ (∃ v' L', Ending.returned v = .returned v' ∧ Upd (fun b => ∃ j, j < css.length ∧ b = (g.ρ j).1) w w' ∧ Same g.L w L' w' ∧ (∀ {b o}, L' b o → g.L b o ∨ w.heap.size ≤ b) ∧ (∀ {b o}, L' b o → ∃ u, w'.cell? ⟨b, o, none⟩ = some u) ∧ MemB P X w' { g with L := L' } css' ∧ (∀ {k : Nat} {o : Obj}, w.heap[k]? = some o → o.isCells = false → w'.heap[k]? = some o)) := fun hbe => by
   obtain ⟨e1, e2, e3, e4, e5, e6⟩ := endM hp' hlen q3 (Upd.refl _ _) q2 hbe
   have hr0 : fn.results = #[] := by simpa using hres
   refine ⟨q5, .tuple #[], ?_, _, g'.L, rfl, e1, e2, e3, e4, e5, e6⟩
   unfold results
   rw [hr0]
   simp
  cases e with
  | normal => exact fin q1
  | ret => exact fin q1
  | exit id => exact q1.elim
  | goto l => exact q1.elim
  | panic ch => exact q1.elim
  | outgrown => exact q1.elim
def endQD (P : Program) (X : En) (tb : Tab) (d : Nat) (fc : FuncId) (Q : Exit → St → Prop) : Exit → St → Prop
 | .normal, st => match tget st.env d with
  | .fn f caps => f = fc ∧ ∃ (bx : List Nat) (css : List (List T)) (args : List T) (css' : List (List T)), FnD P X fc css args css' ∧ nodupB bx = true ∧ bxOk st bx bx css ∧ ArgLes bx caps args ∧ bsetsK bx st bx css' (Q .normal)
  | _ => False
 | .ret, st => match tget st.env d with
  | .fn f caps => f = fc ∧ ∃ (bx : List Nat) (css : List (List T)) (args : List T) (css' : List (List T)), FnD P X fc css args css' ∧ nodupB bx = true ∧ bxOk st bx bx css ∧ ArgLes bx caps args ∧ bsetsK bx st bx css' (Q .ret)
  | _ => False
 | _, _ => False
theorem leaves_marks_k {base : Nat} {S : Nat → Prop} {fn : Func} {R : Ending → World → Prop} {w0 : World} {tmps : Array Value} {ds : List Deferred} (hE0 : X.E w0) : ∀ (ms : List Nat) (st : St) (a : Act) (w : World) (g : Gh), Hd P X base S st a w g → MarksOk w0 w ms → (∀ w', Upd (fun b => w0.heap.size ≤ b) w w' → Hd P X base S st a w' g → (∀ {k : Nat} {o : Obj}, k < w0.heap.size → w.heap[k]? = some o → w'.heap[k]? = some o) → LeavesInM Fence.wide 1 P fn tmps R ds .returning w') → LeavesInM Fence.wide 1 P fn tmps R (marks ms ++ ds) .returning w
 | [], st, a, w, g, hd, hm, hR => hR w (Upd.refl _ _) hd (fun _ h => h)
 | m :: ms, st, a, w, g, hd, hm, hR => by
  obtain ⟨h1, h2⟩ := hm.2 m (by simp)
  have hmE : ¬ X.Eb m := fun hE => by have := X.lt hE0 hE; omega
  refine ⟨by simp, .inl ⟨m, _, rfl, run_takeDeferred h2, ?_⟩⟩
  have hnd := List.nodup_cons.1 hm.1
  refine leaves_marks_k hE0 ms st a _ g (hd.putObj _ h2 rfl rfl hmE) ⟨hnd.2, fun r' hr' => ?_⟩ fun w' hu hd' ho => hR w' (((putObj_upd w m _).mono fun k hk => (by rw [hk]; exact h1)).trans hu) hd' (fun {k o} hk hko => ho hk (by rw [World.putObj_heap_other (by omega)]; exact hko))
  obtain ⟨h3, h4⟩ := hm.2 r' (by simp [hr'])
  refine ⟨h3, ?_⟩
  rw [World.putObj_heap_other (fun e => hnd.1 (by rw [← e]; exact hr'))]
  exact h4
theorem fnM_defer (hT : TabOk P tb) (hm : P.follows .mixedOrders = true) {f : FuncId} (fn : Func) {args : List T} {css css' : List (List T)} {r : T} {i0 i1 : Nat} {ops0 : Array Oper} {oM oD : Oper} {rest : Code} {d : Nat} {fc : FuncId} {cvs : Array Operand} {cl : Call}
  (hf : P.funcs[f]? = some fn) (hb : (fn.name == "runtime.NumGoroutine" || fn.body.isNone) = false) (hbody : bodyOf fn = .seq (.region i0 ops0 false) (.seq (.region i1 #[oM, oD] false) rest)) (hM : oM.op = .makeFunc (.func fc) #[] cvs) (hMd : oM.dst = some d) (hMg : oM.guard = none) (hD : oD.op = .defer cl) (hDc : cl.callee = .value (.tmp d)) (hDa : cl.args = #[]) (hDd : oD.dst = none) (hDg : oD.guard = none) (hdr : d ∉ codeW rest) (hdn : d < fn.ntmps)
  (hn : Nat.ble args.length fn.ntmps = true) (hk : T.noKs args = true) (hp : T.noKss css = true) (hp' : T.noKss css' = true) (hlen : css'.map List.length = css.map List.length)
  (h : aCode P X tb (.region i0 ops0 false) (seqQ (fun st1 => semOp tb (Cn P X) oM st1 fun t st' => aCode P X tb rest (endQD P X tb d fc (endQM tb fn.results.toList r fn.ntmps css')) (st'.put (some d) t)) (fun _ _ => False)) (St.headM fn.ntmps args css)) : FnM P X f css args r css' := by
 cases hc : fn.body with
 | none => rw [hc] at hb; simp at hb
 | some c =>
  have hbd : bodyOf fn = c := by unfold bodyOf; rw [hc]
  rw [hbd] at hbody
  subst hbody
  refine ⟨enter_of (by rw [hf, Option.map_some, hb]), hlen, fun w g vs hE hL hmb hargs => ?_⟩
  have hd := headM (n := fn.ntmps) hn hk hp hE hL hmb hargs
  have hXX : X.Le X := ⟨fun _ h => h, fun _ h => h⟩
  refine callsIn_wide.1 (callsIn_of_wp_marks (n := 1) hf hc trivial (wpIn_seq (wpIn_mono (simp_wp hT hm _ rfl X hXX w.heap.size fn.ntmps _ Fence.wide 1 (.inl rfl) (fun _ => True) (fun _ _ => trivial) _ _ _ w _ (fun ch st h => h.elim) h hd rfl) ?_)))
  rintro e a1 w1 ⟨st1, g1, q1, q2, q3, q4, q5, _⟩
  cases e with
  | exit id => exact q1.elim
  | goto l => exact q1.elim
  | ret => exact q1.elim
  | panic ch => exact q1.elim
  | outgrown => exact q1.elim
  | normal =>
   refine wpIn_seq (wpIn_region ?_)
   show wpOpsIn Fence.wide 1 P #[oM, oD] _ [0, 1] a1 w1
   have q1' : semOp tb (Cn P X) oM st1 (fun t st' => aCode P X tb rest (endQD P X tb d fc (endQM tb fn.results.toList r fn.ntmps css')) (st'.put (some d) t)) := q1
   obtain ⟨v1, t1, cells, _, m2, m3, m4, m5⟩ := ran_makeFunc hM q2 q1'
   have hcn : cells = [] := Classical.byContradiction fun e => by have := m5.1 e; rw [hM] at this; cases this
   have hsz : a1.tmps.size = fn.ntmps := by rw [q2.sz, q4]
   rw [wpOpsIn_cons]
   unfold wpOpIn
   simp only [show (#[oM, oD] : Array Oper)[0]? = some oM from rfl]
   rw [if_pos (by unfold Region.wanted; rw [hMg])]
   refine ⟨fun f _ => trivial, ?_⟩
   rw [Oper.semAt_plain _ _ _ (by rw [hM]; intro c h; cases h), m2 w1 (fun p hp => by rw [hcn] at hp; cases hp)]
   show wpOpsIn Fence.wide 1 P #[oM, oD] _ [1] (a1.put oM.dst v1) w1
   rw [hMd]
   have hfn : ∃ cs, v1 = .func (.func fc) #[] cs := by
    have hx := m2 w1 (fun p hp => by rw [hcn] at hp; cases hp)
    unfold execOp at hx
    simp only [hM, Instr.makeFunc, Array.map_empty, Sem.run_bind, Sem.run_pure, Result.andThen_ok] at hx
    injection hx with hx _
    injection hx with hx
    exact ⟨_, hx.symm⟩
   obtain ⟨cs, rfl⟩ := hfn
   have hed : (a1.put (some d) (.func (.func fc) #[] cs)).eval (.tmp d) = .func (.func fc) #[] cs := by
    show (a1.tmps.setIfInBounds d _).getD d undef = _
    simp [show d < a1.tmps.size by omega]
   rw [wpOpsIn_cons]
   unfold wpOpIn
   simp only [show (#[oM, oD] : Array Oper)[1]? = some oD from rfl]
   rw [if_pos (by unfold Region.wanted; rw [hDg])]
   refine ⟨fun f _ => trivial, ?_⟩
   have hrun : (Oper.semAt Fence.wide.round (a1.put (some d) (.func (.func fc) #[] cs)).eval oD).run P w1 = .ok (.defer { target := .fn (.func fc) cs, args := #[] }) w1 := by
    show (execOp _ oD).run P w1 = _
    unfold execOp
    simp only [hD, resolve, hDc, hed, hDa, Deferred.ofValue, Sem.run_bind, Sem.run_pure, Result.andThen_ok, Array.map_empty, Array.append_empty]
   rw [hrun]
   show rest.wpIn Fence.wide 1 P _ (({ a1.put (some d) (.func (.func fc) #[] cs) with defers := _ } : Act).put oD.dst undef) w1
   rw [hDd]
   show rest.wpIn Fence.wide 1 P _ { a1.put (some d) (.func (.func fc) #[] cs) with defers := { target := .fn (.func fc) cs, args := #[] } :: (a1.put (some d) (.func (.func fc) #[] cs)).defers } w1
   have hd2 := q2.put (some d) m3
   have hd3 : Hd P X w.heap.size (fun b => ∃ j, j < css.length ∧ b = (g.ρ j).1) (st1.put (some d) t1) { a1.put (some d) (.func (.func fc) #[] cs) with defers := { target := .fn (.func fc) cs, args := #[] } :: (a1.put (some d) (.func (.func fc) #[] cs)).defers } w1 g1 := ⟨hd2.sz, hd2.env, hd2.mm, hd2.E, hd2.le⟩
   have hw := code_wp hT hm rest X hXX w.heap.size fn.ntmps _ Fence.wide 1 (.inl rfl) (fun t => t ∈ codeW rest) (fun _ h => h) _ _ _ w1 _ (fun ch st h => h.elim) (fun l hl => by cases hl) m4 hd3 ((put_n _ _ _).trans q4)
   refine wpIn_mono hw ?_
   rintro e a2 w2 ⟨st2, g2, p1, p2, p3, p4, p5, ms, p6, p7⟩
   have hds : a2.defers = marks ms ++ [{ target := .fn (.func fc) cs, args := #[] }] := by
    rw [p6]
    show _ ++ _ :: (a1.put (some d) _).defers = _
    rw [put_defers, q5]
   have hval : a2.eval (.tmp d) = .func (.func fc) #[] cs := by
    show a2.tmps.getD d undef = _
    rw [p5 d hdr]
    exact hed
   have key : ∀ (ex : Exit), (match tget st2.env d with
     | .fn f caps => f = fc ∧ ∃ (bx : List Nat) (css0 : List (List T)) (args : List T) (css1 : List (List T)), FnD P X fc css0 args css1 ∧ nodupB bx = true ∧ bxOk st2 bx bx css0 ∧ ArgLes bx caps args ∧ bsetsK bx st2 bx css1 (endQM tb fn.results.toList r fn.ntmps css' ex)
     | _ => False) → (∀ st, endQM tb fn.results.toList r fn.ntmps css' ex st → match resTs tb st fn.results.toList with | some ts => resOk ts r ∧ bxEnd st fn.ntmps (shiftTss fn.ntmps css') | none => False) →
     LeavesInM Fence.wide 1 P fn a2.tmps (fun e w' => ∃ v L', e = .returned v ∧ Upd (fun b => ∃ j, j < css.length ∧ b = (g.ρ j).1) w w' ∧ Same g.L w L' w' ∧ (∀ {b o}, L' b o → g.L b o ∨ w.heap.size ≤ b) ∧ (∀ {b o}, L' b o → ∃ u, w'.cell? ⟨b, o, none⟩ = some u) ∧ MemB P X w' { g with L := L' } css' ∧ (∀ {k : Nat} {o : Obj}, w.heap[k]? = some o → o.isCells = false → w'.heap[k]? = some o) ∧ RepT P w' { g with L := L' } r v) a2.defers .returning w2 := fun ex hq hres => by
    split at hq <;> try exact hq.elim
    rename_i f' caps hfc
    obtain ⟨rfl, bx, css0, args0, css1, ⟨hen, hlen0, hcall⟩, hnb, hbx, hle, hK⟩ := hq
    obtain ⟨hK, hbl⟩ := bsetsK_eq hK
    have hres' := hres _ hK
    split at hres' <;> try exact hres'.elim
    rename_i ts hts
    obtain ⟨hro, hbe⟩ := hres'
    rw [hds]
    refine leaves_marks_k (w0 := w1) q2.E ms st2 a2 w2 g2 p2 p7 fun w3 hu3 hdX ho3 => ?_
    have hev := hdX.env d
    rw [hfc, hval] at hev
    obtain ⟨cs', he, hcaps⟩ := hev
    have hcs : cs' = cs := by injection he with _ _ h3; exact h3.symm
    subst hcs
    have hargs0 := ArgLes.rep (P := P) _ _ _ hle hcaps
    refine ⟨by simp, .inr ⟨by simp [Fence.wide], .func f', cs', f', cs', rfl, ?_, fun _ _ => trivial, ?_⟩⟩
    ·show (invoke (.fn (.func f') cs') #[]).run P w3 = _
     simp only [invoke]
     rw [hen]
     simp
    refine CallsDIn.mono (hcall .returning w3 (g2.of bx) cs'.toList hdX.E hdX.mm.Lc (hdX.passed hXX hnb hbx) hargs0) ?_
    rintro e u' w4 ⟨rfl, v, L', rfl, hu4, hsm, hnw, hlt, hm4, hob⟩
    obtain ⟨b1, b2⟩ := hdX.back (N := fn.ntmps) hnb hbx hlen0 hu4 hsm hnw hlt hm4 hob
    show LeavesInM Fence.wide 1 P fn a2.tmps _ [] (settle .returning) w4
    obtain ⟨v5, r1, r2, r3⟩ := results_run hT b1 hts hro
    have st3 : Stp X w.heap.size (fun b => ∃ j, j < css.length ∧ b = (g.ρ j).1) fn.ntmps w (g.sh fn.ntmps) w3 g2 := by
     have h12 := q3.trans p3
     have hle12 := q3.upd.size
     refine ⟨⟨hu3.os.trans h12.upd.os, hu3.tape.trans h12.upd.tape, hu3.output.trans h12.upd.output, Nat.le_trans h12.upd.size hu3.size, fun k hk hs => ?_⟩, ⟨fun b o u h1 h2 => ?_, fun k o h1 h2 => ?_⟩, h12.newL, h12.rho, fun {k o} h1 h2 => ?_⟩
     ·have hs2 := p3.upd.size
      rw [hu3.block k (by omega) (by omega)]
      exact h12.upd.block k hk hs
     ·obtain ⟨h3, h4⟩ := h12.same.c b o u h1 h2
      have hbl := World.block_lt_of_cell? w _ h2
      exact ⟨h3, hu3.cell h4 (by dsimp only at *; omega)⟩
     ·have hlt1 := (Array.getElem?_eq_some_iff.1 h1).1
      exact ho3 (by omega) (h12.same.m k o h1 h2)
     ·have hlt1 := (Array.getElem?_eq_some_iff.1 h1).1
      exact ho3 (by omega) (h12.obj h1 h2)
    obtain ⟨e1, e2, e3, e4, e5, e6⟩ := endM hp' hlen (st3.trans b2) (Upd.refl _ _) b1 hbe
    exact ⟨v5, r1, v5, L', rfl, e1, e2, e3, e4, e5, e6, RepT.pure (g := { g2 with L := L' }) (g' := { g with L := L' }) (w' := w4) r3 (Same.refl _ _) r2⟩
   cases e with
   | normal => exact key .normal p1 (fun st h => h)
   | ret => exact key .ret p1 (fun st h => h)
   | exit id => exact p1.elim
   | goto l => exact p1.elim
   | panic ch => exact p1.elim
   | outgrown => exact p1.elim
end Go.Proofs.YtiafggoaedifdaaGreatDoor
