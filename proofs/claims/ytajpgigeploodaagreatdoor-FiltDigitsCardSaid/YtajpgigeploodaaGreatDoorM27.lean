/- Several texts, one behind the other. The walk without memory: a loop over a map that was written out just ahead, as a piece by itself. Whatever program. filt, walked: the filter of what stands between its signs. Conditions: texts of at most 10^8 bytes. -/
import Derived.Test.YtajpgigeploodaaGreatDoorM11
import Derived.Maps.RangeRun
import Derived.Test.YtajpgigeploodaaGreatDoorM26
/- The walk without memory: a loop over a map that was written out just ahead, as a piece by itself. Whatever program. -/
namespace Go.Proofs.YtajpgigeploodaaGreatDoor
open Go.RowKit
set_option linter.unusedVariables false
variable {P : Program} {X : En} {base N : Nat} {S : Nat → Prop} {tb : Tab} {F : Fence} {n : Nat}
/-- an object that is no variable and no map was changed -/
theorem cell_put {W : World} {r b q : Nat} {o o0 : Obj} {u : Value} (hr : W.heap[r]? = some o0) (h0 : o0.isCells = false) (hc : W.cell? ⟨b, q, none⟩ = some u) : (W.putObj r o).cell? ⟨b, q, none⟩ = some u := by
  by_cases hb : b = r
  · subst hb
    unfold World.cell? at hc
    dsimp only at hc
    rw [hr] at hc
    cases o0 <;> first | (cases h0; done) | cases hc
  · rw [cell_old (World.putObj_heap_other hb)]; exact hc
theorem Stp.put {w W : World} {g g' : Gh} {r : Nat} {o o0 : Obj} (h : Stp X base S N w g W g') (hr : W.heap[r]? = some o0) (h0 : o0.isCells = false) (hm : isMapO o0 = false) (hw : w.heap.size ≤ r) : Stp X base S N w g (W.putObj r o) g' := by
  have hu := putObj_upd W r o
  refine ⟨⟨hu.os.trans h.upd.os, hu.tape.trans h.upd.tape, hu.output.trans h.upd.output, Nat.le_trans h.upd.size hu.size, fun k hk hs => ?_⟩, ⟨fun b q u h1 h2 => ?_, h.same.m.trans (.putObj hr hm)⟩, h.newL, h.rho, fun {k o'} hk hc => ?_⟩
  · rw [World.putObj_heap_other (by omega)]; exact h.upd.block k hk hs
  · obtain ⟨h3, h4⟩ := h.same.c b q u h1 h2
    exact ⟨h3, cell_put hr h0 h4⟩
  · have := (Array.getElem?_eq_some_iff.1 hk).1
    rw [World.putObj_heap_other (by omega)]
    exact h.obj hk hc
/-- the loop, as a text has it -/
def rngCode (i0 : Nat) (ops : Array Oper) (b0 i1 : Nat) (oN oX : Oper) (tx b1 i2 : Nat) (ops2 : Array Oper) (body : Code) : Code :=
  .seq (.region i0 ops false) (.block b0 (.loop (.seq (.region i1 #[oN, oX] false) (.seq (.cond (.tmp tx) .skip (.exit b0)) (.block b1 (.seq (.region i2 ops2 false) body))))))
/-- what holds ahead of a round: the entries whose numbers are in 'seen' were handed out -/
structure RngJ (P : Program) (X : En) (base : Nat) (S : Nat → Prop) (N : Nat) (Wr : Nat → Prop) (it m r : Nat) (es : Array MapEntry) (ck : Nat) (ks vs : List V) (a0 : Act) (w : World) (g : Gh) (st : St) (seen : List Nat) (arr : Array Nat) (a : Act) (W : World) (g' : Gh) : Prop where
  hd : Hd P X base S st a W g'
  stp : Stp X base S N w g W g'
  n : st.n = N
  kp : ∀ t, ¬ Wr t → a.tmps.getD t undef = a0.tmps.getD t undef
  df : ∃ ms, a.defers = marks ms ++ a0.defers ∧ MarksOk w W ms
  it_ : a.eval (.tmp it) = .pointer (some ⟨r, 0, none⟩)
  ro : ∃ cl, W.heap[r]? = some (.mapIter (some m) ck arr cl) ∧ ck ≤ cl
  arr_ : ∀ b, arr.contains b = true ↔ ∃ j, j ∈ seen ∧ (es.toList[j]?).map (·.born) = some b
  hk : RepW W g'.L ks (es.toList.map (·.key))
  hv : RepW W g'.L vs (es.toList.map (·.val))
  mo : W.heap[m]? = some (.map es ck)
  nd : seen.Nodup
  lt : ∀ j ∈ seen, j < ks.length
theorem eval_put_eq (a : Act) (d : Nat) (v : Value) (h : d < a.tmps.size) : (a.put (some d) v).eval (.tmp d) = v := by
  show (a.tmps.setIfInBounds d v).getD d undef = v
  simp [h]
theorem eval_put_ne (a : Act) (d t : Nat) (v : Value) (h : t ≠ d) : (a.put (some d) v).eval (.tmp t) = a.eval (.tmp t) := put_keep a (some d) v t (fun e => h (by cases e; rfl))
/-- one operation ahead of others, by its run -/
theorem op_run (hF : Open F) {ops : Array Oper} {Q : Exit → Act → World → Prop} {i : Nat} {r : List Nat} {o : Oper} {a : Act} {w w' : World} {v : Value} (hi : ops[i]? = some o) (hg : o.guard = none) (hd : ∀ c, o.op ≠ .defer c) (hr : (execOp a.eval o).run P w = .ok (.value v) w') (h : wpOpsIn F n P ops Q r (a.put o.dst v) w') : wpOpsIn F n P ops Q (i :: r) a w := by
  rw [wpOpsIn_cons]
  unfold wpOpIn
  simp only [hi]
  rw [if_pos (by unfold Region.wanted; rw [hg])]
  refine ⟨fun f _ => hF.fn f, ?_⟩
  rw [Oper.semAt_plain F _ _ hd, hr]
  exact h
theorem RepW.get {w : World} {L : Lv} : ∀ {l : List V} {cs : List Value} {i : Nat} {x : V}, RepW w L l cs → l[i]? = some x → ∃ u, cs[i]? = some u ∧ Rep w L x u
  | [], _, _, _, _, h => by simp at h
  | y :: xs, _, 0, x, ⟨u, us, e, r, _⟩, h => by simp at h; subst h; exact ⟨u, by rw [e]; rfl, r⟩
  | y :: xs, _, i + 1, x, ⟨u, us, e, _, rs⟩, h => by
    obtain ⟨z, hz, r⟩ := rs.get (i := i) (by simpa using h)
    exact ⟨z, by rw [e]; simpa using hz, r⟩
theorem nodup_inj {l : List Nat} (h : l.Nodup) {i j x : Nat} (hi : l[i]? = some x) (hj : l[j]? = some x) : i = j := by
  obtain ⟨h1, e1⟩ := List.getElem?_eq_some_iff.1 hi
  obtain ⟨h2, e2⟩ := List.getElem?_eq_some_iff.1 hj
  have hp := List.pairwise_iff_getElem.1 h
  rcases Nat.lt_trichotomy i j with hlt | he | hlt
  · exact absurd (e1.trans e2.symm) (hp i j h1 h2 hlt)
  · exact he
  · exact absurd (e2.trans e1.symm) (hp j i h2 h1 hlt)
theorem rng_frn (hT : TabOk P tb) (hmx : P.follows .mixedOrders = true) {X0 : En} {i0 : Nat} {ops : Array Oper} {b0 i1 : Nat} {oN oX : Oper} {tx b1 i2 : Nat} {ops2 : Array Oper} {body : Code} {M t sm it tn te : Nat} {oR oE : Oper} {ks vs : List V} {st stF : St} {I : List Nat → St}
    (hM : ops.size = M + 1) (hR : ops[M]? = some oR) (hRo : oR.op = .range t (.tmp sm)) (hRd : oR.dst = some it) (hRg : oR.guard = none) (htm : (lk t tb.mps).isSome = true)
    (hNo : oN.op = .next (.tmp it) false) (hNd : oN.dst = some tn) (hNg : oN.guard = none) (hXo : oX.op = .extract (.tmp tn) 0) (hXd : oX.dst = some tx) (hXg : oX.guard = none)
    (hE : ops2[0]? = some oE) (hEo : oE.op = .entry (.tmp it)) (hEd : oE.dst = some te) (hEg : oE.guard = none)
    (hn1 : it < st.n) (hn2 : tn < st.n) (hn3 : tx < st.n) (hne1 : it ≠ tn) (hne2 : it ≠ tx) (hne3 : tn ≠ tx) (hne4 : it ∉ codeW (.region i2 ops2 false) ++ codeW body) (hlen : ks.length = vs.length)
    (h0 : semLit tb (Cn P X0) ops.toList none (ops.toList.take M) st fun st1 => tget st1.env sm = .v (.mp ks vs) ∧ ∃ σ, Wk σ (st1.put (some it) .un) (I []))
    (h1 : ∀ (seen : List Nat) (j : Nat) (k v : V), seen.Nodup → j ∉ seen → (∀ i ∈ seen, i < ks.length) → ks[j]? = some k → vs[j]? = some v → semOps tb (Cn P X0) ops2.toList (ops2.toList.drop 1) ((((I seen).put (some tn) .un).put (some tx) .un).put (some te) (.tup [.v k, .v v])) fun st' => aCode P X0 tb body (blockQ b1 fun e st'' => e = .normal ∧ ∃ σ, Wk σ st'' (I (j :: seen))) st')
    (h2 : ∀ seen : List Nat, seen.Nodup → (∀ i ∈ seen, i < ks.length) → (∀ i, i < ks.length → i ∈ seen) → ∃ σ, Wk σ (((I seen).put (some tn) .un).put (some tx) .un) stF) :
    Frn P X0 (rngCode i0 ops b0 i1 oN oX tx b1 i2 ops2 body) st stF := by
  intro X hX base N S F n Wr a w g hF hW hl hd hn
  have hWops : ∀ (j : Nat) (o : Oper) (d : Nat), ops[j]? = some o → o.dst = some d → Wr d := fun j o d hj ho => hW d (List.mem_append_left _ (List.mem_filterMap.2 ⟨o, by simpa using Array.mem_of_getElem? hj, ho⟩))
  have hWl : ∀ t, t ∈ codeW (.region i1 #[oN, oX] false) ∨ t ∈ codeW (.region i2 ops2 false) ∨ t ∈ codeW body → Wr t := fun t ht => hW t (by
    refine List.mem_append_right _ ?_
    show t ∈ codeW (.region i1 #[oN, oX] false) ++ ([] ++ [] ++ (codeW (.region i2 ops2 false) ++ codeW body))
    rcases ht with ht | ht | ht
    · exact List.mem_append_left _ ht
    · exact List.mem_append_right _ (by simp [ht])
    · exact List.mem_append_right _ (by simp [ht]))
  have hWit : Wr it := hWops M oR it hR hRd
  have hWtn : Wr tn := hWl tn (.inl (by simp [codeW, hNd]))
  have hWtx : Wr tx := hWl tx (.inl (by simp [codeW, hXd]))
  have hsz : a.tmps.size = st.n := hd.sz
  obtain ⟨q0, hq0⟩ := Option.isSome_iff_exists.1 htm
  obtain ⟨kt, et, ei, t1, _⟩ := hT.mps hq0
  refine wpIn_seq (wpIn_region ?_)
  rw [List.range_eq_range', hM, show List.range' 0 (M + 1) = List.range' 0 M ++ [M] by rw [List.range'_concat]; simp]
  refine lit_none hX hF hT hWops (M := M) (by omega) (K := fun st1 => tget st1.env sm = .v (.mp ks vs) ∧ ∃ σ, Wk σ (st1.put (some it) .un) (I [])) (tl := [M]) ?_ M 0 st a w g (by omega) (by rw [List.drop_zero]; exact h0) ⟨hd, Stp.refl _ _ _ _ _ _, rfl, hn, fun _ _ => rfl⟩
  rintro a1 w1 st1 g1 ⟨hsm, σ, hw⟩ hL
  have hev := hL.hd.env sm
  rw [hsm] at hev
  obtain ⟨m, es, ck, hme, hmo, ⟨hb1, hb2⟩, hk, hv⟩ := hev
  have hkl := hk.length
  rw [List.length_map] at hkl
  have hrun : (execOp a1.eval oR).run P w1 = .ok (.value (.pointer (some ⟨w1.heap.size, 0, none⟩))) (w1.alloc (.mapIter (some m) ck #[] ck)) := by
    unfold execOp
    simp only [hRo, hme, Sem.run_bind, run_range_map w1 t kt et m es ck t1 hmo, Result.andThen_ok]
    rfl
  refine op_run hF hR hRg (by rw [hRo]; intro c h; cases h) hrun ?_
  rw [hRd]
  have hbel : Below w1.heap.size w1 (w1.alloc (.mapIter (some m) ck #[] ck)) := below_new w1 _
  obtain ⟨d1, d2, _⟩ := hL.hd.below (N := N) hbel (Same.of_below hbel) .inl (fun {b o} hl' => by obtain ⟨u, hu⟩ := hL.hd.mm.Lc hl'; exact ⟨u, cell_below hu hbel⟩)
  have d3 := d1.put (some it) (t := .un) (v := .pointer (some ⟨w1.heap.size, 0, none⟩)) trivial
  obtain ⟨d4, d5⟩ := d3.wk (N := N) hw
  have hsz1 : a1.tmps.size = st.n := by rw [hL.hd.sz, hL.n, hn]
  have hwle : w.heap.size ≤ w1.heap.size := hL.stp.upd.size
  have j0 : RngJ P X base S N Wr it m w1.heap.size es ck ks vs a w g (I []) [] #[] (a1.put (some it) (.pointer (some ⟨w1.heap.size, 0, none⟩))) (w1.alloc (.mapIter (some m) ck #[] ck)) (Gh.ren { g1 with L := g1.L } σ) := by
    refine ⟨d4, (hL.stp.trans d2).trans d5, hw.1.trans ((put_n _ _ _).trans hL.n), fun t ht => (put_keep _ _ _ t (fun e => ht (by cases e; exact hWit))).trans (hL.kp t ht), ⟨[], (put_defers _ _ _).trans hL.df, MarksOk.nil _ _⟩, eval_put_eq _ _ _ (by omega), ⟨ck, heap_alloc_new w1 _, Nat.le_refl _⟩, fun b => ?_, RepW.mono (Same.of_below hbel) _ _ hk, RepW.mono (Same.of_below hbel) _ _ hv, ?_, List.nodup_nil, fun j hj => by cases hj⟩
    · simp
    · rw [heap_alloc_old _ _ (Array.getElem?_eq_some_iff.1 hmo).1]; exact hmo
  clear d1 d2 d3 d4 d5 hrun hk hv
  generalize hr : w1.heap.size = r at j0 hwle
  generalize w1.alloc (.mapIter (some m) ck #[] ck) = W0 at j0
  generalize a1.put (some it) (.pointer (some ⟨r, 0, none⟩)) = A0 at j0
  generalize Gh.ren { g1 with L := g1.L } σ = G0 at j0
  show (Code.block b0 _).wpIn F n P _ A0 W0
  have hrE : ¬ X.Eb r := fun hE => by have := X.lt hd.E hE; omega
  have gete : ∀ {e : MapEntry}, e ∈ es.toList → ∃ j, es.toList[j]? = some e := fun {e} he => List.getElem?_of_mem he
  refine wpIn_block (wpIn_loop_ghost (fun k a2 W => ∃ seen arr g2, RngJ P X base S N Wr it m r es ck ks vs a w g (I seen) seen arr a2 W g2 ∧ k = (leftOf es arr).size) (leftOf es #[]).size ⟨[], #[], G0, j0, rfl⟩ ?_)
  rintro k a2 W ⟨seen, arr, g2, hj, rfl⟩
  obtain ⟨cl, hro, hcl⟩ := hj.ro
  have hsz2 : a2.tmps.size = st.n := by rw [hj.hd.sz, hj.n, hn]
  refine wpIn_seq (wpIn_region ?_)
  show wpOpsIn F n P #[oN, oX] _ [0, 1] a2 W
  -- the step, whatever comes
  have step : ∀ (v : Value) (W1 : World) {Q : Exit → Act → World → Prop} (b : Bool) (hv : ∃ cs : Array Value, v = .tuple cs ∧ cs[0]? = some (.bool b)) (hrunN : (Instr.next (.pointer (some ⟨r, 0, none⟩)) false oN.type).run P W = .ok v W1) (h : Q .normal ((a2.put (some tn) v).put (some tx) (.bool b)) W1), wpOpsIn F n P #[oN, oX] Q [0, 1] a2 W := fun v W1 {Q} b ⟨cs, hv, hcs⟩ hrunN h => by
    refine op_run hF (o := oN) rfl hNg (by rw [hNo]; intro c h; cases h) (v := v) (w' := W1) ?_ ?_
    · unfold execOp
      simp only [hNo, hj.it_, Sem.run_bind, hrunN, Result.andThen_ok]
      rfl
    refine op_run hF (o := oX) rfl hXg (by rw [hXo]; intro c h; cases h) (v := .bool b) (w' := W1) ?_ ?_
    · rw [hNd]
      have he : (a2.put (some tn) v).eval (.tmp tn) = .tuple cs := by rw [eval_put_eq _ _ _ (by omega), hv]
      unfold execOp
      simp [hXo, he, Instr.extract, hcs]
    · rw [hNd, hXd]; exact h
  have hev : ∀ (v : Value) (b : Bool), ((a2.put (some tn) v).put (some tx) (.bool b)).eval (.tmp tx) = .bool b := fun v b => eval_put_eq _ _ _ (by rw [put_size]; omega)
  have hitP : ∀ (v u : Value), ((a2.put (some tn) v).put (some tx) u).eval (.tmp it) = .pointer (some ⟨r, 0, none⟩) := fun v u => by rw [eval_put_ne _ _ _ _ hne2, eval_put_ne _ _ _ _ hne1]; exact hj.it_
  have hkpP : ∀ (v u : Value) (t : Nat), ¬ Wr t → ((a2.put (some tn) v).put (some tx) u).tmps.getD t undef = a.tmps.getD t undef := fun v u t ht => by
    rw [put_keep _ _ _ t (fun e => ht (by cases e; exact hWtx)), put_keep _ _ _ t (fun e => ht (by cases e; exact hWtn))]
    exact hj.kp t ht
  have hdfP : ∀ (v u : Value), ((a2.put (some tn) v).put (some tx) u).defers = a2.defers := fun v u => (put_defers _ _ _).trans (put_defers _ _ _)
  rcases run_next_at (P := P) W oN.type r m ck cl arr es ck hro hj.mo hb2 hcl with ⟨hz, hrunN⟩ | ⟨e, he, w1', hal, hrunN⟩
  · -- none is left
    refine step _ _ false ⟨_, rfl, rfl⟩ hrunN ?_
    have hall := all_seen es arr hz
    obtain ⟨σF, hwF⟩ := h2 seen hj.nd hj.lt (fun i hi => by
      have hil : i < es.toList.length := by omega
      have := hall _ (List.getElem_mem hil)
      obtain ⟨j, hjs, hjb⟩ := (hj.arr_ _).1 this
      have : j = i := by
        have hjl : j < es.toList.length := by have := hj.lt j hjs; omega
        rw [List.getElem?_eq_getElem hjl, Option.map_some] at hjb
        injection hjb with hjb
        exact nodup_inj hb1 (x := es.toList[i].born) (by rw [List.getElem?_map, List.getElem?_eq_getElem hjl, Option.map_some, hjb]) (by rw [List.getElem?_map, List.getElem?_eq_getElem hil]; rfl)
      exact this ▸ hjs)
    have d1 := (hj.hd.put (some tn) (t := .un) (v := .tuple #[.bool false]) trivial).put (some tx) (t := .un) (v := .bool false) trivial
    obtain ⟨d2, d3⟩ := d1.wk (N := N) hwF
    refine wpIn_seq (wpIn_cond_false (hev _ _) (wpIn_exit ?_))
    show (if b0 = b0 then _ else _)
    rw [if_pos rfl]
    obtain ⟨ms, m1, m2⟩ := hj.df
    exact ⟨stF, _, ⟨rfl, rfl⟩, d2, hj.stp.trans d3, hwF.1.trans ((put_n _ _ _).trans ((put_n _ _ _).trans hj.n)), hkpP _ _, ms, (hdfP _ _).trans m1, m2⟩
  · -- an entry
    obtain ⟨hee, hns⟩ := mem_left he
    obtain ⟨j, hje⟩ := gete hee
    have hjl : j < es.toList.length := (List.getElem?_eq_some_iff.1 hje).1
    have hjn : j ∉ seen := fun hm => by
      have := (hj.arr_ e.born).2 ⟨j, hm, by rw [hje]; rfl⟩
      rw [this] at hns; cases hns
    refine step _ _ true ⟨_, rfl, rfl⟩ hrunN ?_
    -- the world behind it
    have hdW : Hd P X base S (I seen) a2 w1' g2 ∧ Stp X base S N w g w1' g2 ∧ (∀ k : Nat, w1'.heap[k]? = W.heap[k]?) ∧ Same g2.L W g2.L w1' := by
      rcases hal with rfl | rfl
      · exact ⟨hj.hd, hj.stp, fun _ => rfl, Same.refl _ _⟩
      · exact ⟨hj.hd.drew, hj.stp.trans Stp.drew, fun _ => rfl, ⟨fun _ _ _ h k => ⟨h, k⟩, fun _ _ h _ => h⟩⟩
    obtain ⟨e1, e2, e3, e4⟩ := hdW
    have hro1 : w1'.heap[r]? = some (.mapIter (some m) ck arr cl) := (e3 r).trans hro
    have f1 := e1.putObj (.mapIter (some m) ck (arr.push e.born) ck) hro1 rfl rfl hrE
    have f2 := e2.put (o := .mapIter (some m) ck (arr.push e.born) ck) hro1 rfl rfl hwle
    have f3 : Same g2.L W g2.L (w1'.putObj r (.mapIter (some m) ck (arr.push e.born) ck)) := e4.trans ⟨fun b q u h1 h2 => ⟨h1, cell_put hro1 rfl h2⟩, .putObj hro1 rfl⟩
    have hmr : m ≠ r := fun e0 => by have h0 := hj.mo; rw [e0, hro] at h0; cases h0
    have g1' : (w1'.putObj r (.mapIter (some m) ck (arr.push e.born) ck)).heap[m]? = some (.map es ck) := by rw [World.putObj_heap_other hmr, e3]; exact hj.mo
    have g2' : (w1'.putObj r (.mapIter (some m) ck (arr.push e.born) ck)).heap[r]? = some (.mapIter (some m) ck (arr.push e.born) ck) := World.putObj_heap_same (Array.getElem?_eq_some_iff.1 hro1).1
    show (Code.seq _ _).wpIn F n P _ _ (w1'.putObj r (.mapIter (some m) ck (arr.push e.born) ck))
    generalize hW1 : w1'.putObj r (.mapIter (some m) ck (arr.push e.born) ck) = W1 at f1 f2 f3 g1' g2'
    have k1 := RepW.mono f3 _ _ hj.hk
    have k2 := RepW.mono f3 _ _ hj.hv
    obtain ⟨kv, hkv, kr⟩ : ∃ kv, ks[j]? = some kv ∧ Rep W1 g2.L kv e.key := by
      have hjk : j < ks.length := by omega
      obtain ⟨u, hu, hr'⟩ := k1.get (List.getElem?_eq_getElem hjk)
      rw [List.getElem?_map, hje] at hu
      cases hu
      exact ⟨_, List.getElem?_eq_getElem hjk, hr'⟩
    obtain ⟨vv, hvv, vr⟩ : ∃ vv, vs[j]? = some vv ∧ Rep W1 g2.L vv e.val := by
      have hjv : j < vs.length := by omega
      obtain ⟨u, hu, hr'⟩ := k2.get (List.getElem?_eq_getElem hjv)
      rw [List.getElem?_map, hje] at hu
      cases hu
      exact ⟨_, List.getElem?_eq_getElem hjv, hr'⟩
    have hbody := h1 seen j kv vv hj.nd hjn hj.lt hkv hvv
    refine wpIn_seq (wpIn_cond_true (hev _ _) (wpIn_skip ?_))
    show (Code.block b1 _).wpIn F n P _ _ W1
    refine wpIn_block (wpIn_seq (wpIn_region ?_))
    have hs2 : 0 < ops2.size := (Array.getElem?_eq_some_iff.1 hE).1
    rw [List.range_eq_range', show ops2.size = (ops2.size - 1) + 1 by omega, List.range'_succ]
    refine op_run hF hE hEg (by rw [hEo]; intro c h; cases h) (v := .tuple #[e.key, e.val]) (w' := W1) ?_ ?_
    · unfold execOp
      simp only [hEo, hitP, Sem.run_bind, run_entry_at (P := P) W1 r m ck arr es ck e g2' g1' hee hb1, Result.andThen_ok]
      rfl
    rw [hEd]
    have d1 := ((f1.put (some tn) (t := .un) (v := .tuple #[.bool true, e.key, e.val]) trivial).put (some tx) (t := .un) (v := .bool true) trivial).put (some te) (t := .tup [.v kv, .v vv]) (v := .tuple #[e.key, e.val]) ⟨_, rfl, _, _, rfl, kr, _, _, rfl, vr, rfl⟩
    have hn5 : ((((I seen).put (some tn) .un).put (some tx) .un).put (some te) (.tup [.v kv, .v vv])).n = N := by rw [put_n, put_n, put_n]; exact hj.n
    have hWo : ∀ (j : Nat) (o : Oper) (d : Nat), ops2[j]? = some o → o.dst = some d → d ∈ codeW (.region i2 ops2 false) ++ codeW body := fun j o d hj' ho => List.mem_append_left _ (List.mem_filterMap.2 ⟨o, by simpa using Array.mem_of_getElem? hj', ho⟩)
    have hteW : te ∈ codeW (.region i2 ops2 false) ++ codeW body := hWo 0 oE te hE hEd
    have hlW : ∀ l, F.round = some l → ∃ r, W1.heap[l]? = some (.loop r) := fun l hl' => by
      obtain ⟨r', hr'⟩ := hl l hl'
      exact ⟨r', f2.obj hr' rfl⟩
    refine ops_wp (n := n) hX hF hT (Wr := (· ∈ codeW (.region i2 ops2 false) ++ codeW body)) (a0 := ((a2.put (some tn) (.tuple #[.bool true, e.key, e.val])).put (some tx) (.bool true)).put (some te) (.tuple #[e.key, e.val])) (w0 := W1) (g0 := g2) hWo (K := fun st' => aCode P X0 tb body (blockQ b1 fun e st'' => e = .normal ∧ ∃ σ, Wk σ st'' (I (j :: seen))) st') ?_ (ops2.size - 1) 1 _ _ W1 g2 (by omega) hbody d1 (Stp.refl _ _ _ _ _ _) rfl hn5 (fun _ _ => rfl)
    intro a6 w6 st6 g6 hk6 hd6 hst6 hdf6 hn6 hkp6
    refine wpIn_mono (code_wp hT hmx body X hX base N S F n hF (· ∈ codeW (.region i2 ops2 false) ++ codeW body) (fun t ht => List.mem_append_right _ ht) _ st6 a6 w6 g6 (fun ch s h => by cases h.1) (fun l hl' => by obtain ⟨r', hr'⟩ := hlW l hl'; exact ⟨r', hst6.obj hr' rfl⟩) hk6 hd6 hn6) ?_
    rintro ex a7 w7 ⟨st7, g7, q1, q2, q3, q4, q5, ms, q6, q7⟩
    have fin : (∃ σ, Wk σ st7 (I (j :: seen))) → ∃ k', k' < (leftOf es arr).size ∧ ∃ seen arr g2, RngJ P X base S N Wr it m r es ck ks vs a w g (I seen) seen arr a7 w7 g2 ∧ k' = (leftOf es arr).size := fun ⟨σ, hw⟩ => by
      obtain ⟨p1, p2⟩ := q2.wk (N := N) hw
      have hs67 := hst6.trans q3
      obtain ⟨ms0, m1, m2⟩ := hj.df
      have hdf7 : a7.defers = marks ms ++ a2.defers := by rw [q6, hdf6, put_defers, hdfP]
      refine ⟨_, left_shrinks es arr e he, j :: seen, arr.push e.born, _, ⟨p1, (f2.trans hs67).trans p2, hw.1.trans q4, fun t ht => ?_, ⟨ms ++ ms0, by rw [hdf7, m1]; simp [marks], List.nodup_append.2 ⟨q7.1, m2.1, fun r1 hr1 r2 hr2 => ?_⟩, fun r1 hr1 => ?_⟩, ?_, ⟨ck, hs67.obj g2' rfl, Nat.le_refl _⟩, fun b => ?_, RepW.mono (p2.same) _ _ (RepW.mono hs67.same _ _ k1), RepW.mono (p2.same) _ _ (RepW.mono hs67.same _ _ k2), hs67.obj g1' rfl, List.nodup_cons.2 ⟨hjn, hj.nd⟩, fun i hi => ?_⟩, rfl⟩
      · have ht2 : t ∉ codeW (.region i2 ops2 false) ++ codeW body := fun hm => ht (hWl t ((List.mem_append.1 hm).elim (fun h => .inr (.inl h)) (fun h => .inr (.inr h))))
        rw [q5 t ht2, hkp6 t ht2, put_keep _ _ _ t (fun e => ht2 (by cases e; exact hteW))]
        exact hkpP _ _ t ht
      · rintro rfl
        have h1 := (q7.2 r1 hr1).1
        have h2 := (m2.2 r1 hr2).2
        have h3 := (Array.getElem?_eq_some_iff.1 h2).1
        have h4 : W.heap.size ≤ w6.heap.size := by
          have h5 := hst6.upd.size
          have h6 : w1'.heap.size = W.heap.size := by rcases hal with rfl | rfl <;> rfl
          rw [← hW1, World.putObj_size] at h5
          omega
        omega
      · rcases List.mem_append.1 hr1 with hr1 | hr1
        · have h5 := f2.upd.size
          have h6 := hst6.upd.size
          exact ⟨by have := (q7.2 r1 hr1).1; omega, (q7.2 r1 hr1).2⟩
        · have h2 := (m2.2 r1 hr1).2
          have hne : r1 ≠ r := fun e => by rw [e, hro] at h2; cases h2
          refine ⟨(m2.2 r1 hr1).1, hs67.obj ?_ rfl⟩
          rw [← hW1, World.putObj_heap_other hne, e3]; exact h2
      · show a7.tmps.getD it undef = _
        rw [q5 it hne4, hkp6 it hne4, put_keep _ _ _ it (fun e => hne4 (by cases e; exact hteW))]
        exact hitP _ _
      · rw [contains_push, Bool.or_eq_true, hj.arr_ b]
        constructor
        · rintro (⟨i, h1, h2⟩ | h)
          · exact ⟨i, List.mem_cons_of_mem _ h1, h2⟩
          · have : b = e.born := by simpa using h
            exact ⟨j, List.mem_cons_self, by rw [hje, this]; rfl⟩
        · rintro ⟨i, h1, h2⟩
          rcases List.mem_cons.1 h1 with rfl | h1
          · rw [hje] at h2
            cases h2
            exact .inr (by simp)
          · exact .inl ⟨i, h1, h2⟩
      · rcases List.mem_cons.1 hi with rfl | hi
        · omega
        · exact hj.lt i hi
    cases ex with
    | normal => exact fin q1.2
    | exit id =>
      unfold blockQ at q1
      dsimp only at q1
      split at q1
      · rename_i hb
        have hid : id = b1 := Nat.eq_of_beq_eq_true hb
        subst hid
        show (if id = id then _ else _)
        rw [if_pos rfl]
        exact fin q1.2
      · cases q1.1
    | goto l => cases q1.1
    | ret => cases q1.1
    | panic c => cases q1.1
    | outgrown => cases q1.1
end Go.Proofs.YtajpgigeploodaaGreatDoor
/- filt, walked: the filter of what stands between its signs. Conditions: texts of at most 10^8 bytes. -/
namespace Go.Proofs.YtajpgigeploodaaGreatDoor.Fi
open Go.RowKit Go.Shelf Go.Lib Fl
set_option linter.unusedVariables false
/-- the kind that a name's end tells, and the name, where some signs were looked at -/
def endJ (x : List UInt8) (seen : List Nat) : Int × List UInt8 :=
  if x.getLast? = some 62 ∧ 0 ∈ seen then (5, x.dropLast) else if x.getLast? = some 60 ∧ 1 ∈ seen then (6, x.dropLast) else if x.getLast? = some 126 ∧ 2 ∈ seen then (8, x.dropLast) else (3, x)
theorem endJ_all (x : List UInt8) (seen : List Nat) (h : ∀ i, i < 3 → i ∈ seen) : endJ x seen = endK x := by
  unfold endJ endK
  simp [h 0 (by omega), h 1 (by omega), h 2 (by omega)]
theorem suf_one (x : List UInt8) (c : UInt8) : sufB (bt' x) { data := #[c] } = decide (x.getLast? = some c) := by
  have hz : (bt' x).size = x.length := by rw [← size_bl, bl_of]
  unfold sufB
  rw [hz]
  have h1 : ({ data := #[c] } : ByteArray).size = 1 := rfl
  rw [h1]
  rcases List.eq_nil_or_concat x with rfl | ⟨t, b, hxx⟩
  · simp
  · rw [List.concat_eq_append] at hxx
    subst hxx
    have hl : ((bt' (t ++ [b])).extract ((t ++ [b]).length - 1) (t ++ [b]).length).data.toList = [b] := by
      rw [Lib.extract_data]
      show ((t ++ [b]).toArray.toList.drop _).take _ = _
      simp
    rw [decide_eq_true (show 1 ≤ (t ++ [b]).length by simp), Bool.true_and]
    apply decide_eq_decide.2
    rw [List.getLast?_append]
    simp only [List.getLast?_singleton, Option.some_or, Option.some.injEq]
    constructor
    · intro h
      rw [h] at hl
      simpa using hl.symm
    · intro h
      apply ByteArray.ext
      apply Array.toList_inj.1
      rw [hl, h]
theorem cut_one_end (x : List UInt8) (c : UInt8) : cutE (bt' x) { data := #[c] } = if x.getLast? = some c then bt' x.dropLast else bt' x := by
  have hz : (bt' x).size = x.length := by rw [← size_bl, bl_of]
  unfold cutE
  rw [suf_one]
  by_cases h : x.getLast? = some c
  · rw [decide_eq_true h, if_pos rfl, if_pos h]
    apply ByteArray.ext
    apply Array.toList_inj.1
    rw [Lib.extract_data, hz]
    show (x.toArray.toList.drop 0).take (x.length - 1 - 0) = x.dropLast.toArray.toList
    simp [List.dropLast_eq_take]
  · rw [decide_eq_false h, if_neg (by decide), if_neg h]
def itOk (o : Option Flt) (r : T) : Prop := match o with
  | some f => r = .tup [.v (.agg (cG f)), .v .nili]
  | none => ∃ (f0 : Flt) (i : Int), r = .tup [.v (.agg (cG f0)), .v (fErr i)]
def f0 : Flt := .mk 0 (bt' []) (bt' []) [] (bt' []) []
theorem allM_len {α β : Type} (g : α → Option β) : ∀ (l : List α) (v : List β), Dn.allM g l = some v → v.length = l.length
  | [], v, h => by cases h; rfl
  | x :: r, v, h => by
    rw [Dn.allM] at h
    cases hg : g x with
    | none => rw [hg] at h; cases h
    | some y =>
      rw [hg] at h
      dsimp only at h
      obtain ⟨w, hw, rfl⟩ := Option.map_eq_some_iff.1 h
      simp [allM_len g r w hw]
/-- where a filter's values are wrong -/
def errI (s : List UInt8) : Nat := match cutL 61 s with
  | none => 0
  | some (x, y) => if (endK x).1 = 3 ∧ y.contains 42 = true then badAt (spl 42 (bt' y)) else badAt [bt' y]
def itR (s : List UInt8) : T := match itemF s with
  | some f => .tup [.v (.agg (cG f)), .v .nili]
  | none => .tup [.v (.agg (cG f0)), .v (fErr (errI s : Nat))]
theorem endK3 {x : List UInt8} (h : (endK x).1 = 3) : (endK x).2 = x := by
  unfold endK at h ⊢
  split at h
  · exact absurd h (by show ¬ (5 : Int) = 3; decide)
  split at h
  · exact absurd h (by show ¬ (6 : Int) = 3; decide)
  split at h
  · exact absurd h (by show ¬ (8 : Int) = 3; decide)
  · rename_i h1 h2 h3
    rw [if_neg h1, if_neg h2, if_neg h3]
theorem spl_len (c : UInt8) (y : List UInt8) : (spl c (bt' y)).length = (Txt.splitOn c y).length := by
  unfold spl
  rw [List.length_map, bl_of]
theorem split_sub (c : UInt8) : ∀ (l : List UInt8), ∀ z ∈ Txt.splitOn c l, z.length ≤ l.length
  | [], z, h => by
    have : z = [] := by simpa [Txt.splitOn] using h
    rw [this]; exact Nat.le_refl _
  | x :: t, z, h => by
    have ih := split_sub c t
    rw [Txt.splitOn] at h
    split at h
    · rcases List.mem_cons.1 h with rfl | h
      · simp
      · have := ih z h; simp; omega
    · split at h
      · rename_i e
        exact absurd e (Txt.splitOn_ne c t)
      · rename_i a r e
        rcases List.mem_cons.1 h with rfl | h
        · have := ih a (by rw [e]; simp); simp; omega
        · have := ih z (by rw [e]; simp [h]); simp; omega
theorem spl_size (c : UInt8) (y : List UInt8) : ∀ z ∈ spl c (bt' y), z.size ≤ y.length := fun z hz => by
  unfold spl at hz
  rw [bl_of] at hz
  obtain ⟨u, hu, rfl⟩ := List.mem_map.1 hz
  rw [← size_bl, bl_of]
  exact split_sub c y u hu
theorem allM_spl (y : List UInt8) : Dn.allM (fun s => readV (bl s)) (spl 42 (bt' y)) = Dn.allM readV (Txt.splitOn 42 y) := by
  unfold spl
  rw [bl_of]
  generalize Txt.splitOn 42 y = l
  induction l with
  | nil => rfl
  | cons a r ih => rw [List.map_cons, Dn.allM, Dn.allM, bl_of, ih]
theorem read_one (y : List UInt8) : readV y = match Dn.allM (fun s => readV (bl s)) [bt' y] with | some [w] => some w | _ => none := by
  rw [Dn.allM, bl_of]
  cases readV y <;> rfl
variable (p : Nat → Addr)
set_option maxHeartbeats 4000000 in
theorem item_fn (s : ByteArray) (hs : s.size ≤ 100000000) : Fn Tryz.prog (envX p) 88 [.v (.str s)] (itR (bl s)) := by
  have hc := cut_fn p s hs 61
  unfold cutT at hc
  refine fn_prog tabOk mixed Tryz.f88 Tryz.func88 (by kernel_rfl) (by kernel_rfl) ?_
  conv => whnf
  cases hx : cutL 61 (bl s) with
  | none =>
    rw [hx] at hc
    dsimp only at hc
    (refine st_call hc ?_ rfl rfl ?_; (focus ((repeat' (first | exact trivial | exact rfl | exact Or.inl rfl | exact Or.inr ⟨rfl, rfl⟩ | refine And.intro ?_ ?_)); done)); conv => whnf)
    unfold itR errI itemF
    rw [hx]
    exact ⟨⟨.inr ⟨rfl, rfl⟩, .inl rfl, trivial⟩, rfl⟩
  | some q =>
    obtain ⟨x, y⟩ := q
    rw [hx] at hc
    dsimp only at hc
    have hxy := cutL_app 61 _ _ _ hx
    have hlen : x.length + y.length ≤ 100000000 := by
      have := congrArg List.length hxy
      rw [size_bl, List.length_append, List.length_cons] at this
      omega
    have hzx : (bt' x).size = x.length := by rw [← size_bl, bl_of]
    have hzy : (bt' y).size = y.length := by rw [← size_bl, bl_of]
    (refine st_call hc ?_ rfl rfl ?_; (focus ((repeat' (first | exact trivial | exact rfl | exact Or.inl rfl | exact Or.inr ⟨rfl, rfl⟩ | refine And.intro ?_ ?_)); done)); conv => whnf)
    refine ⟨⟨98, [(2, .ptr 2 0), (3, .v .nili), (4, .v (.str (bt' x))), (5, .v (.str (bt' y))), (7, .ptr 7 0)], [(2, [.v (.int .i64 0), .v (.str (bt' [])), .v (.str (bt' [])), .v .nils, .v (.str (bt' [])), .v .nils]), (7, [.v (.int .i64 (endK x).1), .v (.str (bt' (endK x).2)), .v (.str (bt' [])), .v .nils, .v (.str (bt' [])), .v .nils])], []⟩, ?_, ?_⟩
    · refine rng_frn (M := 5) (t := 76) (sm := 30) (it := 31) (tn := 32) (tx := 33) (te := 34)
        (ks := [.int .i64 5, .int .i64 6, .int .i64 8]) (vs := [.str { data := #[62] }, .str { data := #[60] }, .str { data := #[126] }])
        (I := fun seen => ⟨98, [(2, .ptr 2 0), (3, .v .nili), (4, .v (.str (bt' x))), (5, .v (.str (bt' y))), (7, .ptr 7 0)], [(2, [.v (.int .i64 0), .v (.str (bt' [])), .v (.str (bt' [])), .v .nils, .v (.str (bt' [])), .v .nils]), (7, [.v (.int .i64 (endJ x seen).1), .v (.str (bt' (endJ x seen).2)), .v (.str (bt' [])), .v .nils, .v (.str (bt' [])), .v .nils])], []⟩)
        tabOk mixed rfl rfl rfl rfl rfl (by kernel_rfl) rfl rfl rfl rfl rfl rfl rfl rfl rfl rfl (show (31 : Nat) < 98 by decide) (show (32 : Nat) < 98 by decide) (show (33 : Nat) < 98 by decide) (by decide) (by decide) (by decide) (by decide) rfl ?_ ?_ ?_
      · rw [show endJ x [] = (3, x) from by unfold endJ; simp]
        conv => whnf
        refine ⟨rfl, [], ?_⟩
        (focus ((repeat' (first | exact trivial | exact rfl | exact Or.inl rfl | exact Or.inr ⟨rfl, rfl⟩ | refine And.intro ?_ ?_)); done))
      · intro seen j k v hnd hj hlt hk hv
        match j, hk, hv with
        | 0, hk, hv =>
          cases hk
          cases hv
          have hcs := cutSuf_fn (X := envX p) (bt' x) { data := #[62] } (by omega) (by decide)
          rw [suf_one, cut_one_end] at hcs
          by_cases hl : x.getLast? = some 62
          · have he : endJ x (0 :: seen) = (5, x.dropLast) := by unfold endJ; simp [hl]
            rw [decide_eq_true hl, if_pos hl] at hcs
            conv => whnf
            (refine st_call hcs ?_ rfl rfl ?_; (focus ((repeat' (first | exact trivial | exact rfl | exact Or.inl rfl | exact Or.inr ⟨rfl, rfl⟩ | refine And.intro ?_ ?_)); done)); conv => whnf)
            refine ⟨rfl, [], ?_⟩
            rw [he]
            (focus ((repeat' (first | exact trivial | exact rfl | exact Or.inl rfl | exact Or.inr ⟨rfl, rfl⟩ | refine And.intro ?_ ?_)); done))
          · have he : endJ x (0 :: seen) = endJ x seen := by unfold endJ; simp [hl]
            rw [decide_eq_false hl, if_neg hl] at hcs
            conv => whnf
            (refine st_call hcs ?_ rfl rfl ?_; (focus ((repeat' (first | exact trivial | exact rfl | exact Or.inl rfl | exact Or.inr ⟨rfl, rfl⟩ | refine And.intro ?_ ?_)); done)); conv => whnf)
            refine ⟨rfl, [], ?_⟩
            rw [he]
            (focus ((repeat' (first | exact trivial | exact rfl | exact Or.inl rfl | exact Or.inr ⟨rfl, rfl⟩ | refine And.intro ?_ ?_)); done))
        | 1, hk, hv =>
          cases hk
          cases hv
          have hcs := cutSuf_fn (X := envX p) (bt' x) { data := #[60] } (by omega) (by decide)
          rw [suf_one, cut_one_end] at hcs
          by_cases hl : x.getLast? = some 60
          · have he : endJ x (1 :: seen) = (6, x.dropLast) := by unfold endJ; simp [hl]
            rw [decide_eq_true hl, if_pos hl] at hcs
            conv => whnf
            (refine st_call hcs ?_ rfl rfl ?_; (focus ((repeat' (first | exact trivial | exact rfl | exact Or.inl rfl | exact Or.inr ⟨rfl, rfl⟩ | refine And.intro ?_ ?_)); done)); conv => whnf)
            refine ⟨rfl, [], ?_⟩
            rw [he]
            (focus ((repeat' (first | exact trivial | exact rfl | exact Or.inl rfl | exact Or.inr ⟨rfl, rfl⟩ | refine And.intro ?_ ?_)); done))
          · have he : endJ x (1 :: seen) = endJ x seen := by unfold endJ; simp [hl]
            rw [decide_eq_false hl, if_neg hl] at hcs
            conv => whnf
            (refine st_call hcs ?_ rfl rfl ?_; (focus ((repeat' (first | exact trivial | exact rfl | exact Or.inl rfl | exact Or.inr ⟨rfl, rfl⟩ | refine And.intro ?_ ?_)); done)); conv => whnf)
            refine ⟨rfl, [], ?_⟩
            rw [he]
            (focus ((repeat' (first | exact trivial | exact rfl | exact Or.inl rfl | exact Or.inr ⟨rfl, rfl⟩ | refine And.intro ?_ ?_)); done))
        | 2, hk, hv =>
          cases hk
          cases hv
          have hcs := cutSuf_fn (X := envX p) (bt' x) { data := #[126] } (by omega) (by decide)
          rw [suf_one, cut_one_end] at hcs
          by_cases hl : x.getLast? = some 126
          · have he : endJ x (2 :: seen) = (8, x.dropLast) := by unfold endJ; simp [hl]
            rw [decide_eq_true hl, if_pos hl] at hcs
            conv => whnf
            (refine st_call hcs ?_ rfl rfl ?_; (focus ((repeat' (first | exact trivial | exact rfl | exact Or.inl rfl | exact Or.inr ⟨rfl, rfl⟩ | refine And.intro ?_ ?_)); done)); conv => whnf)
            refine ⟨rfl, [], ?_⟩
            rw [he]
            (focus ((repeat' (first | exact trivial | exact rfl | exact Or.inl rfl | exact Or.inr ⟨rfl, rfl⟩ | refine And.intro ?_ ?_)); done))
          · have he : endJ x (2 :: seen) = endJ x seen := by unfold endJ; simp [hl]
            rw [decide_eq_false hl, if_neg hl] at hcs
            conv => whnf
            (refine st_call hcs ?_ rfl rfl ?_; (focus ((repeat' (first | exact trivial | exact rfl | exact Or.inl rfl | exact Or.inr ⟨rfl, rfl⟩ | refine And.intro ?_ ?_)); done)); conv => whnf)
            refine ⟨rfl, [], ?_⟩
            rw [he]
            (focus ((repeat' (first | exact trivial | exact rfl | exact Or.inl rfl | exact Or.inr ⟨rfl, rfl⟩ | refine And.intro ?_ ?_)); done))
        | j + 3, hk, hv => simp at hk
      · intro seen _ _ hall
        rw [endJ_all x seen hall]
        refine ⟨[], ?_⟩
        (focus ((repeat' (first | exact trivial | exact rfl | exact Or.inl rfl | exact Or.inr ⟨rfl, rfl⟩ | refine And.intro ?_ ?_)); done))
    · conv => whnf
      have hctn := contains_fn p (bt' y) 42
      rw [bl_of] at hctn
      refine ⟨rfl, cmp_split (fun hK => ?_) (fun hK => ?_)⟩
      · conv => whnf
        refine st_callB hctn ⟨.inl rfl, .inl rfl, trivial⟩ rfl (fun hC => ?_) (fun hC => ?_)
        · conv => whnf
          have hKC : (endK x).1 = 3 ∧ y.contains 42 = true := ⟨hK, hC⟩
          have hsp := split_fn p (bt' y) (by omega) 42
          (refine st_call hsp ?_ rfl rfl ?_; (focus ((repeat' (first | exact trivial | exact rfl | exact Or.inl rfl | exact Or.inr ⟨rfl, rfl⟩ | refine And.intro ?_ ?_)); done)); conv => whnf)
          refine cmp_split (fun hS => ?_) (fun hS => ?_)
          · have hN : y = [42] := by have := congrArg bl hS; rw [bl_of] at this; exact this
            conv => whnf
            refine ⟨rfl, cmp_true rfl ?_⟩
            conv => whnf
            rw [show itR (bl s) = .tup [.v (.agg (cG (.mk 7 (bt' x) (bt' []) [] (bt' []) []))), .v .nili] from by
              unfold itR itemF
              rw [hx]
              dsimp only
              rw [if_pos hKC, if_pos hN]]
            exact ⟨⟨.inr ⟨rfl, rfl⟩, .inl rfl, trivial⟩, rfl⟩
          have hN : ¬ y = [42] := fun e => hS (by rw [e]; rfl)
          conv => whnf
          have hvf := values_fn p (spl 42 (bt' y)) (by rw [spl_len]; have := split_len 42 y; omega) (by intro z hz; have := spl_size 42 y z hz; omega)
          unfold valuesT at hvf
          cases ha : Dn.allM (fun s => readV (bl s)) (spl 42 (bt' y)) with
          | none =>
            rw [ha] at hvf
            dsimp only at hvf
            (refine st_call hvf ?_ rfl rfl ?_; (focus ((repeat' (first | exact trivial | exact rfl | exact Or.inl rfl | exact Or.inr ⟨rfl, rfl⟩ | refine And.intro ?_ ?_)); done)); conv => whnf)
            have hr : itR (bl s) = .tup [.v (.agg (cG f0)), .v (fErr (badAt (spl 42 (bt' y)) : Nat))] := by
              unfold itR errI itemF
              rw [hx]
              dsimp only
              rw [if_pos hKC, if_neg hN, ← allM_spl, ha]
              dsimp only
              rw [if_pos hKC]
            rw [hr]
            exact ⟨⟨.inr ⟨rfl, rfl⟩, .inl rfl, trivial⟩, rfl⟩
          | some vs =>
            rw [ha] at hvf
            dsimp only at hvf
            have hvl := allM_len _ _ _ ha
            cases vs with
            | nil => exact absurd hvl.symm (by rw [spl_len]; intro e; exact Txt.splitOn_ne 42 y (List.eq_nil_of_length_eq_zero e))
            | cons v0 r =>
              have hrl : r.length ≤ 100000000 := by rw [spl_len, List.length_cons] at hvl; have := split_len 42 y; omega
              (refine st_call hvf ?_ rfl rfl ?_; (focus ((repeat' (first | exact trivial | exact rfl | exact Or.inl rfl | exact Or.inr ⟨rfl, rfl⟩ | refine And.intro ?_ ?_)); done)); conv => whnf)
              refine ⟨encS v0, by omega, rfl, rfl, ?_⟩
              conv => whnf
              refine st_minus ((v0 :: r).map encS).length 1 (by simp) (by simp; omega) ?_
              conv => whnf
              have hlv : ((v0 :: r).map encS).length - 1 = r.length := by simp
              rw [hlv]
              refine ⟨rfl, cmp_split (fun h9 => ?_) (fun h9 => ?_)⟩
              · conv => whnf
                refine ⟨some [0, 1, 2, 3, 4, 5, 6, 8, 3007, 9, 10, 11], by kernel_rfl, ?_⟩; conv => whnf
                have hro : r ≠ [] := by rintro rfl; simp at h9
                refine ⟨1, r.length, r.length, rfl, rfl, rfl, by omega, Nat.le_refl _, by simp, fun c hc => ?_, r.dropLast.map encS, ?_, ?_⟩
                · obtain ⟨z, _, rfl⟩ := List.mem_map.1 hc; rfl
                · rw [List.map_cons, List.dropLast_eq_take, List.map_take]
                  cases hr0 : r.length with
                  | zero => omega
                  | succ k => simp
                conv => whnf
                refine st_idx (show r.length < (v0 :: r).length by simp) rfl ?_
                have hge : (v0 :: r)[r.length]'(by simp) = r.getLast?.getD (bt' []) := by
                  rw [List.getLast?_eq_getElem?, List.getElem_cons, dif_neg (by omega), List.getElem?_eq_getElem (by omega)]
                  rfl
                rw [hge]
                conv => whnf
                rw [show itR (bl s) = .tup [.v (.agg (cG (.mk 4 (bt' (endK x).2) v0 r.dropLast (r.getLast?.getD (bt' [])) []))), .v .nili] from by
                  unfold itR itemF
                  rw [hx]
                  dsimp only
                  rw [if_pos hKC, if_neg hN, ← allM_spl, ha, endK3 hK]]
                exact ⟨⟨.inr ⟨rfl, rfl⟩, .inl rfl, trivial⟩, rfl⟩
              · conv => whnf
                have hro : r = [] := List.eq_nil_of_length_eq_zero (by omega)
                subst hro
                rw [show itR (bl s) = .tup [.v (.agg (cG (.mk 4 (bt' (endK x).2) v0 [] (bt' []) []))), .v .nili] from by
                  unfold itR itemF
                  rw [hx]
                  dsimp only
                  rw [if_pos hKC, if_neg hN, ← allM_spl, ha, endK3 hK]
                  rfl]
                exact ⟨⟨.inr ⟨rfl, rfl⟩, .inl rfl, trivial⟩, rfl⟩

        · conv => whnf
          refine cmp_split (fun hS => ?_) (fun hS => ?_)
          · have hN : y = [42] := by have := congrArg bl hS; rw [bl_of] at this; exact this
            rw [hN] at hC; exact absurd hC (by decide)
          conv => whnf
          have hvf := values_fn p [bt' y] (by simp) (by intro z hz; rw [List.mem_singleton.1 hz]; omega)
          unfold valuesT at hvf
          cases ha : Dn.allM (fun s => readV (bl s)) [bt' y] with
          | none =>
            rw [ha] at hvf
            dsimp only at hvf
            (refine st_call hvf ?_ rfl rfl ?_; (focus ((repeat' (first | exact trivial | exact rfl | exact Or.inl rfl | exact Or.inr ⟨rfl, rfl⟩ | refine And.intro ?_ ?_)); done)); conv => whnf)
            have hr : itR (bl s) = .tup [.v (.agg (cG f0)), .v (fErr (badAt [bt' y] : Nat))] := by
              unfold itR errI itemF
              rw [hx]
              dsimp only
              rw [if_neg (fun e => absurd (hC.symm.trans e.2) (by decide)), if_neg (fun e => absurd (hC.symm.trans e.2) (by decide)), read_one y, ha]
              rfl
            rw [hr]
            exact ⟨⟨.inr ⟨rfl, rfl⟩, .inl rfl, trivial⟩, rfl⟩
          | some vs =>
            rw [ha] at hvf
            dsimp only at hvf
            have hvl := allM_len _ _ _ ha
            cases vs with
            | nil => exact absurd hvl.symm (by simp)
            | cons v0 r =>
              have hrl : r.length ≤ 100000000 := by simp at hvl; rw [hvl]; simp
              (refine st_call hvf ?_ rfl rfl ?_; (focus ((repeat' (first | exact trivial | exact rfl | exact Or.inl rfl | exact Or.inr ⟨rfl, rfl⟩ | refine And.intro ?_ ?_)); done)); conv => whnf)
              refine ⟨encS v0, by omega, rfl, rfl, ?_⟩
              conv => whnf
              refine st_minus ((v0 :: r).map encS).length 1 (by simp) (by simp; omega) ?_
              conv => whnf
              have hlv : ((v0 :: r).map encS).length - 1 = r.length := by simp
              rw [hlv]
              refine ⟨rfl, cmp_split (fun h9 => ?_) (fun h9 => ?_)⟩
              · conv => whnf
                refine ⟨some [0, 1, 2, 3, 4, 5, 6, 8, 3007, 9, 10, 11], by kernel_rfl, ?_⟩; conv => whnf
                have hro : r ≠ [] := by rintro rfl; simp at h9
                refine ⟨1, r.length, r.length, rfl, rfl, rfl, by omega, Nat.le_refl _, by simp, fun c hc => ?_, r.dropLast.map encS, ?_, ?_⟩
                · obtain ⟨z, _, rfl⟩ := List.mem_map.1 hc; rfl
                · rw [List.map_cons, List.dropLast_eq_take, List.map_take]
                  cases hr0 : r.length with
                  | zero => omega
                  | succ k => simp
                conv => whnf
                refine st_idx (show r.length < (v0 :: r).length by simp) rfl ?_
                have hge : (v0 :: r)[r.length]'(by simp) = r.getLast?.getD (bt' []) := by
                  rw [List.getLast?_eq_getElem?, List.getElem_cons, dif_neg (by omega), List.getElem?_eq_getElem (by omega)]
                  rfl
                rw [hge]
                conv => whnf
                rw [show itR (bl s) = .tup [.v (.agg (cG (.mk (endK x).1 (bt' (endK x).2) v0 r.dropLast (r.getLast?.getD (bt' [])) []))), .v .nili] from by
                  unfold itR itemF
                  rw [hx]
                  dsimp only
                  simp at hvl
                  exact absurd hvl hro]
                exact ⟨⟨.inr ⟨rfl, rfl⟩, .inl rfl, trivial⟩, rfl⟩
              · conv => whnf
                have hro : r = [] := List.eq_nil_of_length_eq_zero (by omega)
                subst hro
                rw [show itR (bl s) = .tup [.v (.agg (cG (.mk (endK x).1 (bt' (endK x).2) v0 [] (bt' []) []))), .v .nili] from by
                  unfold itR itemF
                  rw [hx]
                  dsimp only
                  rw [if_neg (fun e => absurd (hC.symm.trans e.2) (by decide)), read_one y, ha]
                  rfl]
                exact ⟨⟨.inr ⟨rfl, rfl⟩, .inl rfl, trivial⟩, rfl⟩

      · conv => whnf
        have h4 : (endK x).1 ≠ 4 := by
          unfold endK
          split
          · show (5 : Int) ≠ 4; decide
          split
          · show (6 : Int) ≠ 4; decide
          split
          · show (8 : Int) ≠ 4; decide
          · show (3 : Int) ≠ 4; decide
        refine cmp_split (fun hS => ?_) (fun hS => ?_)
        · conv => whnf
          refine ⟨rfl, cmp_false h4 ?_⟩
          conv => whnf
          have hvf := values_fn p [bt' y] (by simp) (by intro z hz; rw [List.mem_singleton.1 hz]; omega)
          unfold valuesT at hvf
          cases ha : Dn.allM (fun s => readV (bl s)) [bt' y] with
          | none =>
            rw [ha] at hvf
            dsimp only at hvf
            (refine st_call hvf ?_ rfl rfl ?_; (focus ((repeat' (first | exact trivial | exact rfl | exact Or.inl rfl | exact Or.inr ⟨rfl, rfl⟩ | refine And.intro ?_ ?_)); done)); conv => whnf)
            have hr : itR (bl s) = .tup [.v (.agg (cG f0)), .v (fErr (badAt [bt' y] : Nat))] := by
              unfold itR errI itemF
              rw [hx]
              dsimp only
              rw [if_neg (fun e => hK e.1), if_neg (fun e => hK e.1), read_one y, ha]
              rfl
            rw [hr]
            exact ⟨⟨.inr ⟨rfl, rfl⟩, .inl rfl, trivial⟩, rfl⟩
          | some vs =>
            rw [ha] at hvf
            dsimp only at hvf
            have hvl := allM_len _ _ _ ha
            cases vs with
            | nil => exact absurd hvl.symm (by simp)
            | cons v0 r =>
              have hrl : r.length ≤ 100000000 := by simp at hvl; rw [hvl]; simp
              (refine st_call hvf ?_ rfl rfl ?_; (focus ((repeat' (first | exact trivial | exact rfl | exact Or.inl rfl | exact Or.inr ⟨rfl, rfl⟩ | refine And.intro ?_ ?_)); done)); conv => whnf)
              refine ⟨encS v0, by omega, rfl, rfl, ?_⟩
              conv => whnf
              refine st_minus ((v0 :: r).map encS).length 1 (by simp) (by simp; omega) ?_
              conv => whnf
              have hlv : ((v0 :: r).map encS).length - 1 = r.length := by simp
              rw [hlv]
              refine ⟨rfl, cmp_split (fun h9 => ?_) (fun h9 => ?_)⟩
              · conv => whnf
                refine ⟨some [0, 1, 2, 3, 4, 5, 6, 8, 3007, 9, 10, 11], by kernel_rfl, ?_⟩; conv => whnf
                have hro : r ≠ [] := by rintro rfl; simp at h9
                refine ⟨1, r.length, r.length, rfl, rfl, rfl, by omega, Nat.le_refl _, by simp, fun c hc => ?_, r.dropLast.map encS, ?_, ?_⟩
                · obtain ⟨z, _, rfl⟩ := List.mem_map.1 hc; rfl
                · rw [List.map_cons, List.dropLast_eq_take, List.map_take]
                  cases hr0 : r.length with
                  | zero => omega
                  | succ k => simp
                conv => whnf
                refine st_idx (show r.length < (v0 :: r).length by simp) rfl ?_
                have hge : (v0 :: r)[r.length]'(by simp) = r.getLast?.getD (bt' []) := by
                  rw [List.getLast?_eq_getElem?, List.getElem_cons, dif_neg (by omega), List.getElem?_eq_getElem (by omega)]
                  rfl
                rw [hge]
                conv => whnf
                rw [show itR (bl s) = .tup [.v (.agg (cG (.mk (endK x).1 (bt' (endK x).2) v0 r.dropLast (r.getLast?.getD (bt' [])) []))), .v .nili] from by
                  unfold itR itemF
                  rw [hx]
                  dsimp only
                  simp at hvl
                  exact absurd hvl hro]
                exact ⟨⟨.inr ⟨rfl, rfl⟩, .inl rfl, trivial⟩, rfl⟩
              · conv => whnf
                have hro : r = [] := List.eq_nil_of_length_eq_zero (by omega)
                subst hro
                rw [show itR (bl s) = .tup [.v (.agg (cG (.mk (endK x).1 (bt' (endK x).2) v0 [] (bt' []) []))), .v .nili] from by
                  unfold itR itemF
                  rw [hx]
                  dsimp only
                  rw [if_neg (fun e => hK e.1), read_one y, ha]
                  rfl]
                exact ⟨⟨.inr ⟨rfl, rfl⟩, .inl rfl, trivial⟩, rfl⟩

        · conv => whnf
          have hvf := values_fn p [bt' y] (by simp) (by intro z hz; rw [List.mem_singleton.1 hz]; omega)
          unfold valuesT at hvf
          cases ha : Dn.allM (fun s => readV (bl s)) [bt' y] with
          | none =>
            rw [ha] at hvf
            dsimp only at hvf
            (refine st_call hvf ?_ rfl rfl ?_; (focus ((repeat' (first | exact trivial | exact rfl | exact Or.inl rfl | exact Or.inr ⟨rfl, rfl⟩ | refine And.intro ?_ ?_)); done)); conv => whnf)
            have hr : itR (bl s) = .tup [.v (.agg (cG f0)), .v (fErr (badAt [bt' y] : Nat))] := by
              unfold itR errI itemF
              rw [hx]
              dsimp only
              rw [if_neg (fun e => hK e.1), if_neg (fun e => hK e.1), read_one y, ha]
              rfl
            rw [hr]
            exact ⟨⟨.inr ⟨rfl, rfl⟩, .inl rfl, trivial⟩, rfl⟩
          | some vs =>
            rw [ha] at hvf
            dsimp only at hvf
            have hvl := allM_len _ _ _ ha
            cases vs with
            | nil => exact absurd hvl.symm (by simp)
            | cons v0 r =>
              have hrl : r.length ≤ 100000000 := by simp at hvl; rw [hvl]; simp
              (refine st_call hvf ?_ rfl rfl ?_; (focus ((repeat' (first | exact trivial | exact rfl | exact Or.inl rfl | exact Or.inr ⟨rfl, rfl⟩ | refine And.intro ?_ ?_)); done)); conv => whnf)
              refine ⟨encS v0, by omega, rfl, rfl, ?_⟩
              conv => whnf
              refine st_minus ((v0 :: r).map encS).length 1 (by simp) (by simp; omega) ?_
              conv => whnf
              have hlv : ((v0 :: r).map encS).length - 1 = r.length := by simp
              rw [hlv]
              refine ⟨rfl, cmp_split (fun h9 => ?_) (fun h9 => ?_)⟩
              · conv => whnf
                refine ⟨some [0, 1, 2, 3, 4, 5, 6, 8, 3007, 9, 10, 11], by kernel_rfl, ?_⟩; conv => whnf
                have hro : r ≠ [] := by rintro rfl; simp at h9
                refine ⟨1, r.length, r.length, rfl, rfl, rfl, by omega, Nat.le_refl _, by simp, fun c hc => ?_, r.dropLast.map encS, ?_, ?_⟩
                · obtain ⟨z, _, rfl⟩ := List.mem_map.1 hc; rfl
                · rw [List.map_cons, List.dropLast_eq_take, List.map_take]
                  cases hr0 : r.length with
                  | zero => omega
                  | succ k => simp
                conv => whnf
                refine st_idx (show r.length < (v0 :: r).length by simp) rfl ?_
                have hge : (v0 :: r)[r.length]'(by simp) = r.getLast?.getD (bt' []) := by
                  rw [List.getLast?_eq_getElem?, List.getElem_cons, dif_neg (by omega), List.getElem?_eq_getElem (by omega)]
                  rfl
                rw [hge]
                conv => whnf
                rw [show itR (bl s) = .tup [.v (.agg (cG (.mk (endK x).1 (bt' (endK x).2) v0 r.dropLast (r.getLast?.getD (bt' [])) []))), .v .nili] from by
                  unfold itR itemF
                  rw [hx]
                  dsimp only
                  simp at hvl
                  exact absurd hvl hro]
                exact ⟨⟨.inr ⟨rfl, rfl⟩, .inl rfl, trivial⟩, rfl⟩
              · conv => whnf
                have hro : r = [] := List.eq_nil_of_length_eq_zero (by omega)
                subst hro
                rw [show itR (bl s) = .tup [.v (.agg (cG (.mk (endK x).1 (bt' (endK x).2) v0 [] (bt' []) []))), .v .nili] from by
                  unfold itR itemF
                  rw [hx]
                  dsimp only
                  rw [if_neg (fun e => hK e.1), read_one y, ha]
                  rfl]
                exact ⟨⟨.inr ⟨rfl, rfl⟩, .inl rfl, trivial⟩, rfl⟩

end Go.Proofs.YtajpgigeploodaaGreatDoor.Fi
