/- Several texts, one behind the other. The walk without memory is right: pieces of code, ranges over functions too. Whatever program. The walk without memory: a function's contract out of the walk of its body. Whatever program. The walk without memory: the program's types, asked by one reckoning. Whatever program. The walk without memory: its steps. -/
import Derived.Test.YtjmpkbmgcbalkaaGreatDoorT06
import Derived.IntWalk
/- The walk without memory is right: pieces of code, ranges over functions too. Whatever program. -/
namespace Go.Proofs.YtjmpkbmgcbalkaaGreatDoor
open Go.RowKit
set_option linter.unusedVariables false
variable {P : Program} {tb : Tab}
theorem out_of {X : En} {base N : Nat} {S : Nat → Prop} {Wr : Nat → Prop} {a : Act} {w : World} {g : Gh} {Q : Exit → St → Prop} {e : Exit} {st : St} (h : Q e st) (hd : Hd P X base S st a w g) (hn : st.n = N) : AftR P X base S N Wr a w g Q e a w :=
  ⟨st, g, h, hd, Stp.refl _ _ _ _ _ _, hn, fun _ _ => rfl, [], rfl, MarksOk.nil _ _⟩
theorem puts_n (ps : List Nat) (vs : List V) (st : St) : (st.puts ps vs).n = st.n := by cases st; rfl
/-- the frame behind an iterator -/
def Behind (P : Program) (X : En) (base : Nat) (S : Nat → Prop) (N : Nat) (a : Act) (w : World) (g : Gh) (lw : Nat) (mk : Option Nat) (l : Nat) (r : Rng.Rec) (Q : Exit → St → Prop) (W : World) : Prop :=
  ∃ st pe, st ≠ .busy ∧ W.heap[l]? = some (r.at st pe) ∧ ∃ (st' : St) (g' : Gh) (Z : Nat → Prop), RunJ P X base S N a w g lw mk st' Z W g' ∧ ((pe = none ∧ Q .normal st') ∨ ∃ e, codeOf e = pe ∧ pe.isSome = true ∧ Q e st')
theorem range_run {X X0 : En} {base N : Nat} {S : Nat → Prop} (hX : ∀ w, X.E w → X0.E w) {st : St} {a : Act} {w w1 : World} {g : Gh} {Q : Exit → St → Prop} {f : FuncId} {caps : List T} {cs : Array Value} {ys : List (List V)} {I : Nat → St} {inv : Nat → Prop} {ps : Array Tmp} {x y : Code} {σ0 : List (Nat × Option Nat)}
    (hIt : It P X0 f caps ys) (hpu : T.pures caps = true) (hcaps : RepTs P w g caps cs.toList) (hd : Hd P X base S st a w g) (hn : st.n = N) (hi0 : inv 0) (hw0 : Wk σ0 st (I 0)) (hend : inv ys.length → Q .normal (I ys.length))
    (hfree : ∀ i, freeE (ps.toList ++ (codeW x ++ codeW y)) (I i).env = true) (hps : ∀ p ∈ ps.toList, p < st.n) (hlen : ∀ (i : Nat) (v : List V), ys[i]? = some v → inv i → v.length = ps.size)
    {l : Nat} {mk : Option Nat} {fn : FuncId} {dn : Nat} (hb : Below w.heap.size w w1) (hrec : w1.heap[l]? = some (Rng.Rec.at ⟨fn, a.tmps, ps, x, y, dn⟩ .ready none)) (hlw : w.heap.size ≤ l) (hmk : ∀ r, mk = some r → w.heap.size ≤ r ∧ r ≠ l ∧ w1.heap[r]? = some (.deferred (some [])))
    (hx : ∀ (X' : En), (∀ w, X'.E w → X0.E w) → ∀ (i : Nat) (v : List V), ys[i]? = some v → inv i → ∀ (a1 : Act) (W : World) (g1 : Gh), Hd P X' base S ((I i).puts ps.toList v) a1 W g1 → ((I i).puts ps.toList v).n = N → (∃ r, W.heap[l]? = some (.loop r)) →
      x.wpIn (Fence.wide.inRound l) 0 P (AftR P X' base S N (· ∈ ps.toList ++ (codeW x ++ codeW y)) a1 W g1 (seqQ (fun st' => aCode P X0 tb y (rndQ (ps.toList ++ (codeW x ++ codeW y)) (inv (i + 1)) (I (i + 1)) Q) st') (fun _ _ => False))) a1 W)
    (hy : ∀ (X' : En), (∀ w, X'.E w → X0.E w) → ∀ (i : Nat) (st1 : St) (a1 : Act) (W : World) (g1 : Gh), aCode P X0 tb y (rndQ (ps.toList ++ (codeW x ++ codeW y)) (inv (i + 1)) (I (i + 1)) Q) st1 → Hd P X' base S st1 a1 W g1 → st1.n = N → (∃ r, W.heap[l]? = some (.loop r)) →
      y.wpIn (Fence.wide.inRound l) 0 P (AftR P X' base S N (· ∈ ps.toList ++ (codeW x ++ codeW y)) a1 W g1 (rndQ (ps.toList ++ (codeW x ++ codeW y)) (inv (i + 1)) (I (i + 1)) Q)) a1 W) :
    Calls P f (#[.func (.yield l) #[] #[]] ++ cs) w1 fun e W' => (∃ v, e = .returned v) ∧ Behind P X base S N a w g w1.heap.size mk l ⟨fn, a.tmps, ps, x, y, dn⟩ Q W' := by
  have hll : l < w1.heap.size := (Array.getElem?_eq_some_iff.1 hrec).1
  have hwl : w.heap.size ≤ w1.heap.size := hb.size
  have hle := hd.le
  obtain ⟨k1, k2⟩ := hd.wk (N := N) hw0
  have hs1 : Same g.L w g.L w1 := Same.of_below hb
  have hlE : ¬ X.Eb l := fun hE => by have := X.lt hd.E hE; omega
  have hput : ∀ {st : St} {a' : Act} {W : World} {g' : Gh} {X' : En} (o : Obj), Hd P X' base S st a' W g' → (∃ r, W.heap[l]? = some (.loop r)) → ¬ X'.Eb l → Hd P X' base S st a' (W.putObj l o) g' := fun {st a' W g' X'} o h ⟨r, hr⟩ hE => by
    refine h.upd (putObj_upd W l o) (fun i hi e => ?_) (fun {b o} hL e => ?_) (fun k e b hk hbk eb => ?_) (fun b hbl => by subst hbl; exact hE)
    · obtain ⟨c, t, fr, hc⟩ := h.mm.bc hi
      rw [e, hr] at hc; cases hc
    · obtain ⟨u, hu⟩ := h.mm.Lc hL
      unfold World.cell? at hu
      dsimp only at hu
      rw [e, hr] at hu; cases hu
    · obtain ⟨n0, vals, o1, _⟩ := h.mm.own hk
      rcases o1.2 with ⟨h0, _⟩ | ⟨gg, cap, cur, h0, _, h1, _⟩
      · rw [h0] at hbk; cases hbk
      · rw [h0] at hbk; cases hbk; dsimp only at eb; rw [eb, hr] at h1; cases h1
  -- what holds ahead of each round
  have hJ0 : RunJ P X base S N a w g w1.heap.size mk (I 0) (fun _ => False) w1 (g.ren σ0) := by
    refine ⟨k1.upd (Upd.of_below (S := fun _ => False) hb) (fun _ _ h => h) (fun _ h => h) (fun _ _ _ _ _ h => h) (fun _ h => h.elim), hw0.1.trans hn, ⟨Upd.of_below hb, hs1, .inl, fun _ => rfl, fun hk _ => (hb.block _ (Array.getElem?_eq_some_iff.1 hk).1).trans hk⟩, Nat.le_refl _, fun r hr => ?_, fun _ _ h => h, fun _ h => h, fun _ _ _ _ _ h => h, fun _ h => h.elim⟩
    obtain ⟨m1, m2, m3⟩ := hmk r hr
    exact ⟨m1, (Array.getElem?_eq_some_iff.1 m3).1, m3⟩
  refine (hIt.2 l g.L cs.toList w1 (fun i Z W => inv i ∧ ∃ g', RunJ P X base S N a w g w1.heap.size mk (I i) Z W g' ∧ W.heap[l]? = some (Rng.Rec.at ⟨fn, a.tmps, ps, x, y, dn⟩ .ready none) ∧ (∀ {b o}, g.L b o → g'.L b o))
    (fun W => ∃ e st' g' Z, RunJ P X base S N a w g w1.heap.size mk st' Z W g' ∧ W.heap[l]? = some (Rng.Rec.at ⟨fn, a.tmps, ps, x, y, dn⟩ .done (codeOf e)) ∧ (codeOf e).isSome = true ∧ Q e st')
    (hX _ (hJ0.hd.E)) (fun {b o} hL => ?_) ?_ ⟨hi0, g.ren σ0, hJ0, hrec, fun h => h⟩ ?_ ?_ ?_ ?_).mono ?_
  · obtain ⟨u, hu⟩ := hd.mm.Lc hL
    exact ⟨u, cell_below hu hb⟩
  · exact RepTs.pure (g := g) (g' := ⟨g.L, fun _ => (0, 0), fun _ => undef⟩) hpu hs1 hcaps
  · rintro i Z W W' ⟨hi, g', hj, hr, hL⟩ hu
    exact ⟨hi, g', hj.upd (Nat.le_trans hle hwl) hwl hu, hu.blk hr (fun hz => by have := (hj.from_ l hz).1.1; omega), hL⟩
  · rintro i Z Z' W ⟨hi, g', hj, hr, hL⟩ hz
    exact ⟨hi, g', ⟨hj.hd, hj.n, hj.stp, hj.lwle, hj.mark, fun i hi h => hj.box i hi (hz _ h), fun hL h => hj.see hL (hz _ h), fun k e b hk hb h => hj.own k e b hk hb (hz _ h), fun b hb => hj.from_ b (hz b hb)⟩, hr, hL⟩
  · rintro i Z W ⟨hi, g', hj, hr, hL⟩
    refine ⟨hX _ hj.hd.E, fun b o u h1 h2 => ⟨h1, ?_⟩, hj.lwle, fun b hb => (hj.from_ b hb).1⟩
    obtain ⟨u0, hu0⟩ := hd.mm.Lc h1
    have h3 := cell_below hu0 hb
    rw [h2] at h3
    rw [(hj.stp.same b o u0 h1 hu0).2, h3]
  · -- a round
    rintro i v Z Z' W L' args hv ⟨hi, g', hj, hr, hL⟩ hra hsub hZ' hdis
    have hal := hra.length
    have hvl := hlen i v hv hi
    have hyr := run_yield (P := P) (w := W) (l := l) (args := args.toArray) hr (by show args.toArray.size = ps.size; rw [List.size_toArray, hal, hvl])
    have hargs : (ps.zip args.toArray).foldl (fun tmps (t, a) => tmps.setIfInBounds t a) a.tmps = (ps.toList.zip args).foldl (fun t (p : Nat × Value) => t.setIfInBounds p.1 p.2) a.tmps := by
      rw [← Array.foldl_toList, Array.toList_zip]
    refine ⟨_, _, _, _, hyr, ?_⟩
    have hlZ : ¬ Z l := fun hz => by have := (hj.from_ l hz).1.1; omega
    -- what is seen now
    have hsee : Hd P X base S (I i) a W { g' with L := fun b o => g'.L b o ∨ (L' b o ∧ ∃ u, W.cell? ⟨b, o, none⟩ = some u) } := by
      refine hj.hd.see .inl (fun q o hq => ?_) (fun k e b o hk hbk h => ?_) (fun {b o} h => ?_)
      · rintro (h | ⟨h, _⟩)
        · exact hj.hd.mm.bxL hq o h
        · rcases hsub h with h | h
          · exact hj.hd.mm.bxL hq o (hL h)
          · exact hj.box q hq h
      · rcases h with h | ⟨h, _⟩
        · exact h
        · rcases hsub h with h | h
          · exact hL h
          · exact absurd h (hj.own k e b hk hbk)
      · rcases h with h | ⟨_, h⟩
        · exact hj.hd.mm.Lc h
        · exact h
    generalize hLg : (fun b o => g'.L b o ∨ (L' b o ∧ ∃ u, W.cell? ⟨b, o, none⟩ = some u) : Lv) = Lg at hsee
    have hLgi : ∀ {b o}, Lg b o → g'.L b o ∨ L' b o := fun {b o} h => by rw [← hLg] at h; exact h.imp id And.left
    have hLgl : ∀ {b o}, g'.L b o → Lg b o := fun {b o} h => by rw [← hLg]; exact .inl h
    have hraG : RepL W Lg v args := RepL.mono (fun b o u h1 h2 => ⟨by rw [← hLg]; exact .inr ⟨h1, u, h2⟩, h2⟩) _ _ hra
    have hZ'lt : ∀ b, Z' b → b < W.heap.size := fun b hb => (hj.from_ b (hZ' b hb)).1.2
    have hp := hsee.plus (Z := Z') hZ'lt (fun q hq h => hj.box q hq (hZ' _ h)) (fun k e b hk hbk h => hj.own k e b hk hbk (hZ' _ h))
    have hX2 : ∀ w, (X.plus Z' W).E w → X0.E w := fun w h => hX w h.1
    have hlE2 : ¬ (X.plus Z' W).Eb l := fun h => h.elim hlE (fun h => hlZ (hZ' _ h))
    have hpu2 := Hd.puts (a := a) ps.toList v args (I i) a hp (fun p hp' => Nat.lt_of_lt_of_eq (hps p hp') (hn.trans hj.n.symm)) (by rw [hvl]; simp) hraG
    rw [hargs]
    generalize hA : (ps.toList.zip args).foldl (fun t (p : Nat × Value) => t.setIfInBounds p.1 p.2) a.tmps = A at hpu2 ⊢
    have hAk : ∀ t, t ∉ ps.toList ++ (codeW x ++ codeW y) → A.getD t undef = a.tmps.getD t undef := fun t ht => by
      rw [← hA]
      refine foldl_keep _ _ _ fun p hp' e => ht (List.mem_append_left _ ?_)
      rw [← e]
      exact (List.of_mem_zip hp').1
    have hAs : A.size = a.tmps.size := by rw [← hA]; exact foldl_size _ _
    refine Rng.round hr (wpIn_mono (hx _ hX2 i v hv hi { tmps := A, defers := [] } W _ ⟨hpu2.sz, hpu2.env, hpu2.mm, hpu2.E, hpu2.le⟩ ((puts_n _ _ _).trans hj.n) ⟨_, hr⟩) ?_)
    rintro e a1 W1 ⟨st1, g3, q1, q2, q3, q4, q5, ms, q6, q7⟩
    cases e with
    | exit j => exact q1.elim
    | goto j => exact q1.elim
    | ret => exact q1.elim
    | panic c => exact q1.elim
    | outgrown => exact q1.elim
    | normal =>
      have hr1 := q3.obj hr rfl
      have hl1 : l < W1.heap.size := (Array.getElem?_eq_some_iff.1 hr1).1
      refine ⟨hr1, wpIn_mono (hy _ hX2 i st1 a1 _ g3 q1 (hput (Rng.Rec.at ⟨fn, a.tmps, ps, x, y, dn⟩ .busy none) q2 ⟨_, hr1⟩ hlE2) q4 ⟨_, World.putObj_heap_same hl1⟩) ?_⟩
      rintro e a3 W3 ⟨st3, g4, p1, p2, p3, p4, p5, ms', p6, p7⟩
      have hr3 := p3.obj (World.putObj_heap_same hl1 (o := Rng.Rec.at ⟨fn, a.tmps, ps, x, y, dn⟩ .busy none)) rfl
      have hl3 : l < W3.heap.size := (Array.getElem?_eq_some_iff.1 hr3).1
      have cellP : ∀ {W : World} {o : Obj} {b q : Nat} {u : Value}, (∃ r, W.heap[l]? = some (.loop r)) → W.cell? ⟨b, q, none⟩ = some u → (W.putObj l o).cell? ⟨b, q, none⟩ = some u := fun {W o b q u} ⟨r, hr⟩ hc => by
        by_cases hbl : b = l
        · subst hbl
          unfold World.cell? at hc
          rw [hr] at hc; cases hc
        · rw [cell_old (World.putObj_heap_other hbl)]; exact hc
      have sameAll : ∀ o, Same g.L w g4.L (W3.putObj l o) := fun o b q u h1 h2 => by
        obtain ⟨c1, c2⟩ := hj.stp.same b q u h1 h2
        obtain ⟨c3, c4⟩ := q3.same b q u (hLgl c1) c2
        obtain ⟨c5, c6⟩ := p3.same b q u c3 (cellP ⟨_, hr1⟩ c4)
        exact ⟨c5, cellP ⟨_, hr3⟩ c6⟩
      have updP : ∀ (W : World) (o : Obj), Upd (fun b => S b ∨ base ≤ b) W (W.putObj l o) := fun W o => (putObj_upd W l o).mono fun b hb => .inr (by omega)
      have behind : ∀ (σ : List (Nat × Option Nat)) (st4 : St) (o : Obj), Wk σ st3 st4 → freeE (ps.toList ++ (codeW x ++ codeW y)) st4.env = true → RunJ P X base S N a w g w1.heap.size mk st4 Z' (W3.putObj l o) (g4.ren σ) ∧ Upd (fun b => ¬ Z' b) W (W3.putObj l o) := fun σ st4 o hw hf => by
        obtain ⟨i1, i2⟩ := p2.wk (N := N) hw
        have i3 : Hd P (X.plus Z' W) base S st4 a W3 (g4.ren σ) := i1.act (a' := a) hf (by have e1 := i1.sz; have e2 := hd.sz; have e3 := hw.1; omega) (fun t ht => by
          have e1 := p5 t ht
          have e2 := q5 t ht
          have e3 := hAk t ht
          rw [e1, e2]
          exact e3.symm)
        have i4 := hput o i3 ⟨_, hr3⟩ hlE2
        refine ⟨⟨i4.minus, hw.1.trans p4, ⟨?_, sameAll o, fun {b q} h => ?_, fun {k} hk => ?_, fun {k o'} hk hc => ?_⟩, ?_, fun r hrm => ?_, fun q hq h => i4.mm.bxE hq (.inr h), fun {b q} h hz => ?_, fun k e b hk hbk h => i4.mm.ownE hk hbk (.inr h), fun b hb => ?_⟩, ?_⟩
        · exact (((hj.stp.upd.trans q3.upd).trans (updP _ _)).trans p3.upd).trans (updP _ _)
        · rcases p3.newL h with h | ⟨h, hE⟩
          · rcases q3.newL h with h | ⟨h, hE⟩
            · rcases hLgi h with h | h
              · exact hj.stp.newL h
              · rcases hsub h with h | h
                · exact .inl h
                · exact .inr ⟨Nat.le_trans hle (Nat.le_trans hwl (hj.from_ b h).1.1), (hj.from_ b h).2⟩
            · exact .inr ⟨h, fun h' => hE (.inl h')⟩
          · exact .inr ⟨h, fun h' => hE (.inl h')⟩
        · exact (p3.rho hk).trans ((q3.rho hk).trans (hj.stp.rho hk))
        · have hkl : k ≠ l := fun e => by have := (Array.getElem?_eq_some_iff.1 hk).1; omega
          rw [World.putObj_heap_other hkl]
          exact p3.obj (by rw [World.putObj_heap_other hkl]; exact q3.obj (hj.stp.obj hk hc) hc) hc
        · rw [World.putObj_size]
          have s1 := hj.lwle
          have s2 := q3.upd.size
          have s3 := p3.upd.size
          rw [World.putObj_size] at s3
          omega
        · obtain ⟨m1, m2, m3⟩ := hj.mark r hrm
          have hrl : r ≠ l := fun e => by rw [e, hr] at m3; cases m3
          refine ⟨m1, m2, ?_⟩
          rw [World.putObj_heap_other hrl]
          exact p3.obj (by rw [World.putObj_heap_other hrl]; exact q3.obj m3 rfl) rfl
        · rcases p3.newL h with h | ⟨_, hE⟩
          · rcases q3.newL h with h | ⟨_, hE⟩
            · rcases hLgi h with h | h
              · exact hj.see h (hZ' _ hz)
              · exact hdis h hz
            · exact hE (.inr hz)
          · exact hE (.inr hz)
        · have h1 := hj.from_ b (hZ' b hb)
          have s2 := q3.upd.size
          have s3 := p3.upd.size
          rw [World.putObj_size] at s3
          exact ⟨⟨h1.1.1, by rw [World.putObj_size]; omega⟩, h1.2⟩
        · have u1 := (q3.upd.trans (updP W1 (Rng.Rec.at ⟨fn, a.tmps, ps, x, y, dn⟩ .busy none))).trans (p3.upd.trans (updP W3 o))
          exact ⟨u1.os, u1.tape, u1.output, u1.size, fun b hb hz => by
            have hz' : Z' b := Classical.not_not.1 hz
            have hbl : b ≠ l := fun e => hlZ (by rw [← e]; exact hZ' _ hz')
            rw [World.putObj_heap_other hbl]
            exact (p2.E.2 b hz').1⟩
      refine ⟨hr3, ?_⟩
      cases e with
      | normal =>
        obtain ⟨hi1, σ, hw⟩ := p1
        obtain ⟨b1, b2⟩ := behind σ _ (Rng.Rec.at ⟨fn, a.tmps, ps, x, y, dn⟩ .ready none) hw (hfree (i + 1))
        refine .inl ⟨rfl, ⟨hi1, g4.ren σ, b1, World.putObj_heap_same hl3, fun {b q} h => ?_⟩, b2⟩
        obtain ⟨u, hu⟩ := hd.mm.Lc h
        exact (sameAll (Rng.Rec.at ⟨fn, a.tmps, ps, x, y, dn⟩ .ready none) b q u h hu).1
      | exit j =>
        obtain ⟨σ, st', hw, hf, hq⟩ := p1
        exact .inr ⟨rfl, .exit j, st', g4.ren σ, Z', (behind σ st' _ hw hf).1, World.putObj_heap_same hl3, rfl, hq⟩
      | ret =>
        obtain ⟨σ, st', hw, hf, hq⟩ := p1
        exact .inr ⟨rfl, .ret, st', g4.ren σ, Z', (behind σ st' _ hw hf).1, World.putObj_heap_same hl3, rfl, hq⟩
      | goto j => exact p1.elim
      | panic c => exact p1.elim
      | outgrown => exact p1.elim
  · rintro e W' ⟨hv, h⟩
    refine ⟨hv, ?_⟩
    rcases h with ⟨Z, hi, g', hj, hr, _⟩ | ⟨e', st', g', Z, hj, hr, hc, hq⟩
    · exact ⟨.ready, none, by simp, hr, I ys.length, g', Z, hj, .inl ⟨rfl, hend hi⟩⟩
    · exact ⟨.done, codeOf e', by simp, hr, st', g', Z, hj, .inr ⟨e', rfl, hc, hq⟩⟩
theorem wrapped_none {c : Code} {e : Exit} (h : codeOf e = some c) : (c = .ret ∧ e = .ret) ∨ ∃ j, c = .exit j ∧ e = .exit j := by
  cases e <;> first | (cases h; exact .inl ⟨rfl, rfl⟩) | (cases h; exact .inr ⟨_, rfl, rfl⟩) | cases h
theorem code_wp (hT : TabOk P tb) (hm : P.follows .mixedOrders = true) {X0 : En} : ∀ (c : Code) (X : En) (hX : ∀ w, X.E w → X0.E w) (base N : Nat) (S : Nat → Prop) (F : Fence) (n : Nat) (hF : Open F) (Wr : Nat → Prop) (hW : ∀ t ∈ codeW c, Wr t) (Q : Exit → St → Prop) (st : St) (a : Act) (w : World) (g : Gh), (∀ ch st, ¬ Q (.panic ch) st) → (∀ l, F.round = some l → ∃ r, w.heap[l]? = some (.loop r)) → aCode P X0 tb c Q st → Hd P X base S st a w g → st.n = N → c.wpIn F n P (AftR P X base S N Wr a w g Q) a w := by
  intro c
  induction c with
  | skip => intro X hX base N S F n hF Wr hW Q st a w g hp hl h hd hn; exact wpIn_skip (out_of h hd hn)
  | exit id => intro X hX base N S F n hF Wr hW Q st a w g hp hl h hd hn; exact wpIn_exit (out_of h hd hn)
  | ret => intro X hX base N S F n hF Wr hW Q st a w g hp hl h hd hn; exact wpIn_ret (out_of h hd hn)
  | label l => intro X hX base N S F n hF Wr hW Q st a w g hp hl h hd hn; exact wpIn_label (out_of h hd hn)
  | goto l => intro X hX base N S F n hF Wr hW Q st a w g hp hl h hd hn; exact wpIn_goto (out_of h hd hn)
  | scope b => intro X hX base N S F n hF Wr hW Q st a w g hp hl h hd hn; exact h.elim
  | refuse s => intro X hX base N S F n hF Wr hW Q st a w g hp hl h hd hn; exact h.elim
  | region id ops draw =>
    intro X hX base N S F n hF Wr hW Q st a w g hp hl h hd hn
    have hWr : ∀ (j : Nat) (o : Oper) (d : Nat), ops[j]? = some o → o.dst = some d → Wr d := fun j o d hj ho => hW d (List.mem_filterMap.2 ⟨o, by simpa using Array.mem_of_getElem? hj, ho⟩)
    have fin : ∀ a' w' st' g', Q .normal st' → Hd P X base S st' a' w' g' → Stp X base S N w g w' g' → a'.defers = a.defers → st'.n = N → (∀ t, ¬ Wr t → a'.tmps.getD t undef = a.tmps.getD t undef) → AftR P X base S N Wr a w g Q .normal a' w' := fun a' w' st' g' h1 h2 h3 h4 h5 h6 => ⟨st', g', h1, h2, h3, h5, h6, [], h4, MarksOk.nil _ _⟩
    cases draw with
    | false =>
      refine wpIn_region ?_
      rw [List.range_eq_range']
      exact ops_wp hX hF hT (K := Q .normal) (a0 := a) (w0 := w) (g0 := g) hWr fin ops.size 0 st a w g (by omega) h hd (Stp.refl _ _ _ _ _ _) rfl hn (fun _ _ => rfl)
    | true =>
      obtain ⟨sch0, hok, hs⟩ := h
      generalize sch0.getD (List.range ops.size) = sch at hok hs
      unfold regionOk at hok
      simp only [Bool.and_eq_true] at hok
      obtain ⟨⟨⟨o0, o1⟩, o2⟩, o3⟩ := hok
      refine wpIn_region_draw fun t => ?_
      simp only [Region.schedule, hm, Bool.true_or, if_true]
      have := (sch_anyK (n := n) (Q := AftR P X base S N Wr a w g Q) hX hF hT o1 o2 (K := Q .normal) (a0 := a) (w0 := w) (g0 := g) hWr fin (fun c a w ⟨st', _, h, _⟩ => hp c st' h) sch ops.size (Array.replicate ops.size false) st a _ g (Nat.le_of_ble_eq_true o0) o3 hs hd.drew Stp.drew rfl hn (fun _ _ => rfl)).any
      exact wpAnyIn_sound ops.size t _ a _ this
  | seq x y ihx ihy =>
    intro X hX base N S F n hF Wr hW Q st a w g hp hl h hd hn
    refine wpIn_seq (wpIn_mono (ihx X hX base N S F n hF Wr (fun t ht => hW t (List.mem_append_left _ ht)) (seqQ (fun st' => aCode P X0 tb y Q st') Q) st a w g (fun ch st' hh => hp ch st' hh) hl h hd hn) ?_)
    rintro e a1 w1 ⟨st', g', q1, q2, q3, q4, q5, q6⟩
    cases e with
    | normal => exact wpIn_mono (ihy X hX base N S F n hF Wr (fun t ht => hW t (List.mem_append_right _ ht)) Q st' a1 w1 g' hp (fun l hl' => by obtain ⟨r, hr⟩ := hl l hl'; exact ⟨r, q3.obj hr rfl⟩) q1 q2 q4) fun e a2 w2 k => k.next q3 q5 q6
    | exit id => exact ⟨st', g', q1, q2, q3, q4, q5, q6⟩
    | goto l => exact ⟨st', g', q1, q2, q3, q4, q5, q6⟩
    | ret => exact ⟨st', g', q1, q2, q3, q4, q5, q6⟩
    | panic ch => exact ⟨st', g', q1, q2, q3, q4, q5, q6⟩
    | outgrown => exact ⟨st', g', q1, q2, q3, q4, q5, q6⟩
  | cond c x y ihx ihy =>
    intro X hX base N S F n hF Wr hW Q st a w g hp hl h hd hn
    unfold aCode at h
    have hc := hd.ev c
    split at h
    · rename_i hq
      rw [hq] at hc
      exact wpIn_cond_true hc (ihx X hX base N S F n hF Wr (fun t ht => hW t (List.mem_append_left _ ht)) Q st a w g hp hl h hd hn)
    · rename_i hq
      rw [hq] at hc
      exact wpIn_cond_false hc (ihy X hX base N S F n hF Wr (fun t ht => hW t (List.mem_append_right _ ht)) Q st a w g hp hl h hd hn)
    · exact h.elim
  | block id b ih =>
    intro X hX base N S F n hF Wr hW Q st a w g hp hl h hd hn
    refine wpIn_block (wpIn_mono (ih X hX base N S F n hF Wr hW (blockQ id Q) st a w g (fun ch st' hh => hp ch st' hh) hl h hd hn) ?_)
    rintro e a1 w1 ⟨st', g', q1, q2⟩
    cases e with
    | exit j =>
      unfold blockQ at q1
      dsimp only at q1
      split at q1
      · rename_i hb
        have : j = id := Nat.eq_of_beq_eq_true hb
        simp only [Exit.inBlock, this, if_true]
        exact ⟨st', g', q1, q2⟩
      · rename_i hb
        have : j ≠ id := fun e => by rw [e, Nat.beq_refl] at hb; cases hb
        simp only [Exit.inBlock, this, if_false]
        exact ⟨st', g', q1, q2⟩
    | normal => exact ⟨st', g', q1, q2⟩
    | goto l => exact ⟨st', g', q1, q2⟩
    | ret => exact ⟨st', g', q1, q2⟩
    | panic ch => exact ⟨st', g', q1, q2⟩
    | outgrown => exact ⟨st', g', q1, q2⟩
  | loop b ih =>
    intro X hX base N S F n hF Wr hW Q st a w g hp hl h hd hn
    obtain ⟨α, I, inv, rk, ⟨x0, σ0, hi0, hw0⟩, hr⟩ := h
    obtain ⟨h1, h2⟩ := hd.wk (N := N) hw0
    refine wpIn_loop_ghost (fun k a1 w1 => ∃ x g1, inv x ∧ rk x = k ∧ Hd P X base S (I x) a1 w1 g1 ∧ Stp X base S N w g w1 g1 ∧ (I x).n = N ∧ (∀ t, ¬ Wr t → a1.tmps.getD t undef = a.tmps.getD t undef) ∧ ∃ ms, a1.defers = marks ms ++ a.defers ∧ MarksOk w w1 ms) (rk x0) ⟨x0, _, hi0, rfl, h1, h2, hw0.1.trans hn, fun _ _ => rfl, [], rfl, MarksOk.nil _ _⟩ ?_
    rintro k a1 w1 ⟨x, g1, hix, rfl, q1, q2, q4, q5, q6⟩
    refine wpIn_mono (ih X hX base N S F n hF Wr hW (loopQ I inv rk x Q) (I x) a1 w1 g1 (fun ch st' hh => hp ch st' hh) (fun l hl' => by obtain ⟨r, hr⟩ := hl l hl'; exact ⟨r, q2.obj hr rfl⟩) (hr x hix) q1 q4) ?_
    intro e a2 w2 hk
    have hk' := AftR.next q2 q5 q6 hk
    obtain ⟨st', g', p1, p2, p3, p4, p5, p6⟩ := hk'
    cases e with
    | normal =>
      obtain ⟨y, σ, hiy, hlt, hw⟩ := p1
      obtain ⟨i1, i2⟩ := p2.wk (N := N) hw
      exact ⟨rk y, hlt, y, _, hiy, rfl, i1, p3.trans i2, hw.1.trans p4, p5, p6⟩
    | exit id => exact ⟨st', g', p1, p2, p3, p4, p5, p6⟩
    | goto l => exact ⟨st', g', p1, p2, p3, p4, p5, p6⟩
    | ret => exact ⟨st', g', p1, p2, p3, p4, p5, p6⟩
    | panic ch => exact ⟨st', g', p1, p2, p3, p4, p5, p6⟩
    | outgrown => exact ⟨st', g', p1, p2, p3, p4, p5, p6⟩
  | rangeFunc fo ps x y ihx ihy =>
    intro X hX base N S F n hF Wr hW Q st a w g hp hl h hd hn
    unfold aCode at h
    have hfo := hd.ev fo
    split at h <;> try exact h.elim
    rename_i f caps hf
    rw [hf] at hfo
    obtain ⟨cs, hcv, hcaps⟩ := hfo
    obtain ⟨caps', ys, I, inv, hIt, hle, hpu, ⟨hi0, σ0, hw0⟩, hfree, hps, hround, hend⟩ := h
    have hcaps' := LeTs.rep (P := P) _ _ _ hle hcaps
    have key : ∀ (w1 : World) (l : Nat) (mk : Option Nat) (fn : FuncId) (dn : Nat), Below w.heap.size w w1 → w1.heap[l]? = some (Rng.Rec.at ⟨fn, a.tmps, ps, x, y, dn⟩ .ready none) → w.heap.size ≤ l → (∀ r, mk = some r → w.heap.size ≤ r ∧ r ≠ l ∧ w1.heap[r]? = some (.deferred (some []))) →
        Calls P f (#[.func (.yield l) #[] #[]] ++ cs) w1 fun e W' => (∃ v, e = .returned v) ∧ Behind P X base S N a w g w1.heap.size mk l ⟨fn, a.tmps, ps, x, y, dn⟩ Q W' := fun w1 l mk fn dn hb hrec hlw hmk =>
      range_run hX hIt hpu hcaps' hd hn hi0 hw0 hend hfree hps (fun i v hv hi => (hround i v hv hi).1) hb hrec hlw hmk
        (fun X' hX' i v hv hi a1 W g1 hd1 hn1 hr1 => ihx X' hX' base N S _ 0 (.inr ⟨l, rfl⟩) _ (fun t ht => List.mem_append_right _ (List.mem_append_left _ ht)) _ _ a1 W g1 (fun _ _ h => h.elim) (fun l' hl' => by cases hl'; exact hr1) (hround i v hv hi).2 hd1 hn1)
        (fun X' hX' i st1 a1 W g1 h1 hd1 hn1 hr1 => ihy X' hX' base N S _ 0 (.inr ⟨l, rfl⟩) _ (fun t ht => List.mem_append_right _ (List.mem_append_right _ ht)) _ st1 a1 W g1 (fun _ _ h => h.elim) (fun l' hl' => by cases hl'; exact hr1) h1 hd1 hn1)
    -- behind the iterator
    have fin : ∀ (w1 : World) (l : Nat) (mk : Option Nat) (fn : FuncId) (dn : Nat) (W' : World), w.heap.size ≤ l → l < w1.heap.size → (∀ r, mk = some r → r ≠ l) → Behind P X base S N a w g w1.heap.size mk l ⟨fn, a.tmps, ps, x, y, dn⟩ Q W' → ∃ pe W'', (Instr.endLoop l).run P W' = .ok pe W'' ∧ (match pe with
        | none => AftR P X base S N Wr a w g Q .normal { a with defers := marks mk.toList ++ a.defers } W''
        | some c => c.wpIn F n P (AftR P X base S N Wr a w g Q) { a with defers := marks mk.toList ++ a.defers } W'') := fun w1 l mk fn dn W' hlw hl1 hml hbh => by
      obtain ⟨ls, pe, hls, hrec, st', g', Z, hj, hcase⟩ := hbh
      refine ⟨pe, _, run_endLoop (P := P) hrec (by simpa using hls), ?_⟩
      have hle0 := hd.le
      have hlE : ¬ X.Eb l := fun hE => by have := X.lt hd.E hE; omega
      generalize hW2 : W'.putObj l _ = W2
      have hu : Upd (fun k => k = l) W' W2 := by rw [← hW2]; exact putObj_upd _ _ _
      have hoth : ∀ k, k ≠ l → W2.heap[k]? = W'.heap[k]? := fun k hk => by rw [← hW2]; exact World.putObj_heap_other hk
      have hd2 : Hd P X base S st' { a with defers := marks mk.toList ++ a.defers } W2 g' := by
        have h1 := hj.hd.upd hu (fun i hi e => ?_) (fun {b o} hL e => ?_) (fun k e b hk hbk eb => ?_) (fun b hbl => by subst hbl; exact hlE)
        · exact ⟨h1.sz, h1.env, h1.mm, h1.E, h1.le⟩
        · obtain ⟨c, t, fr, hc⟩ := hj.hd.mm.bc hi
          rw [e, hrec] at hc; cases hc
        · obtain ⟨u, hu⟩ := hj.hd.mm.Lc hL
          unfold World.cell? at hu
          dsimp only at hu
          rw [e, hrec] at hu; cases hu
        · obtain ⟨n0, vals, o1, _⟩ := hj.hd.mm.own hk
          rcases o1.2 with ⟨h0, _⟩ | ⟨gg, cap, cur, h0, _, h1, _⟩
          · rw [h0] at hbk; cases hbk
          · rw [h0] at hbk; cases hbk; dsimp only at eb; rw [eb, hrec] at h1; cases h1
      have cell2 : ∀ {b q : Nat} {u : Value}, W'.cell? ⟨b, q, none⟩ = some u → W2.cell? ⟨b, q, none⟩ = some u := fun {b q u} hc => by
        by_cases hbl : b = l
        · subst hbl
          unfold World.cell? at hc
          rw [hrec] at hc; cases hc
        · rw [cell_old (hoth b hbl)]; exact hc
      have hst : Stp X base S N w g W2 g' := ⟨hj.stp.upd.trans (hu.mono fun b hb => .inr (by omega)), fun b o u h1 h2 => ⟨(hj.stp.same b o u h1 h2).1, cell2 (hj.stp.same b o u h1 h2).2⟩, hj.stp.newL, hj.stp.rho, fun {k o} hk hc => by
        rw [hoth k (fun e => by have := (Array.getElem?_eq_some_iff.1 hk).1; omega)]
        exact hj.stp.obj hk hc⟩
      have hmarks : MarksOk w W2 mk.toList := by
        cases mk with
        | none => exact MarksOk.nil _ _
        | some r =>
          refine ⟨by simp, fun r' hr' => ?_⟩
          have : r' = r := by simpa using hr'
          subst this
          obtain ⟨m1, m2, m3⟩ := hj.mark r' rfl
          exact ⟨m1, by rw [hoth r' (hml r' rfl)]; exact m3⟩
      have out : ∀ e, Q e st' → AftR P X base S N Wr a w g Q e { a with defers := marks mk.toList ++ a.defers } W2 := fun e hq => ⟨st', g', hq, hd2, hst, hj.n, fun _ _ => rfl, mk.toList, rfl, hmarks⟩
      rcases hcase with ⟨rfl, hq⟩ | ⟨e, rfl, hsome, hq⟩
      · exact out .normal hq
      · cases hce : codeOf e with
        | none => rw [hce] at hsome; cases hsome
        | some c =>
          rcases wrapped_none hce with ⟨rfl, rfl⟩ | ⟨j, rfl, rfl⟩
          · exact wpIn_ret (out _ hq)
          · exact wpIn_exit (out _ hq)
    have hinv : ∀ (l : Nat) (W : World), (resolve a.eval (rangeCall fo l) 0).run P W = .ok { target := .fn (.func f) cs, args := #[.func (.yield l) #[] #[]] } W := fun l W => by
      simp only [resolve, hcv]
      simp [Deferred.ofValue, Act.eval]
    have ent : ∀ (l : Nat) (W : World), (invoke (.fn (.func f) cs) #[.func (.yield l) #[] #[]]).run P W = .ok (.enter f (#[.func (.yield l) #[] #[]] ++ cs)) W := fun l W => hIt.1 _ W
    refine wpIn_rangeFunc fun fn _ => ?_
    cases hro : F.round with
    | none =>
      have hb : Below w.heap.size w ((w.alloc (.deferred (some []))).alloc (Rng.Rec.at ⟨fn, a.tmps, ps, x, y, w.heap.size⟩ .ready none)) := below_then (below_new _ _) (below_new _ _)
      refine ⟨w.heap.size + 1, [{ target := .collected w.heap.size, args := #[] }], _, _, _, f, #[.func (.yield (w.heap.size + 1)) #[] #[]] ++ cs, _, run_enterLoop_outer _ _ _ _ _, hinv _ _, fun f' _ => hF.fn f', ent _ _, fun h => (by rw [hF.depth] at h; cases h), ?_⟩
      have hr1 : ((w.alloc (.deferred (some []))).alloc (Rng.Rec.at ⟨fn, a.tmps, ps, x, y, w.heap.size⟩ .ready none)).heap[w.heap.size + 1]? = some (Rng.Rec.at ⟨fn, a.tmps, ps, x, y, w.heap.size⟩ .ready none) := by
        have := heap_alloc_new (w.alloc (.deferred (some []))) (Rng.Rec.at ⟨fn, a.tmps, ps, x, y, w.heap.size⟩ .ready none)
        simpa using this
      have hr2 : ((w.alloc (.deferred (some []))).alloc (Rng.Rec.at ⟨fn, a.tmps, ps, x, y, w.heap.size⟩ .ready none)).heap[w.heap.size]? = some (.deferred (some [])) := by
        rw [heap_alloc_old _ _ (by simp)]
        exact heap_alloc_new _ _
      refine hF.calls ((key _ (w.heap.size + 1) (some w.heap.size) fn w.heap.size hb hr1 (by omega) (fun r hr => by cases hr; exact ⟨Nat.le_refl _, by omega, hr2⟩)).mono ?_)
      rintro e W' ⟨⟨v, rfl⟩, hbh⟩
      obtain ⟨pe, W'', e1, e2⟩ := fin _ _ _ _ _ W' (by omega) (Array.getElem?_eq_some_iff.1 hr1).1 (fun r hr => by cases hr; omega) hbh
      refine ⟨pe, W'', e1, ?_⟩
      cases pe with
      | none => exact e2
      | some c => exact e2
    | some l0 =>
      obtain ⟨r0, hr0⟩ := hl l0 hro
      have hb : Below w.heap.size w (w.alloc (Rng.Rec.at ⟨fn, a.tmps, ps, x, y, r0.defers⟩ .ready none)) := below_new _ _
      refine ⟨w.heap.size, [], _, _, _, f, #[.func (.yield w.heap.size) #[] #[]] ++ cs, _, run_enterLoop_inner hr0 _ _ _ _ _, hinv _ _, fun f' _ => hF.fn f', ent _ _, fun h => (by rw [hF.depth] at h; cases h), ?_⟩
      have hr1 : (w.alloc (Rng.Rec.at ⟨fn, a.tmps, ps, x, y, r0.defers⟩ .ready none)).heap[w.heap.size]? = some (Rng.Rec.at ⟨fn, a.tmps, ps, x, y, r0.defers⟩ .ready none) := heap_alloc_new _ _
      refine hF.calls ((key _ w.heap.size none fn r0.defers hb hr1 (Nat.le_refl _) (fun r hr => by cases hr)).mono ?_)
      rintro e W' ⟨⟨v, rfl⟩, hbh⟩
      obtain ⟨pe, W'', e1, e2⟩ := fin _ _ _ _ _ W' (Nat.le_refl _) (Array.getElem?_eq_some_iff.1 hr1).1 (fun r hr => by cases hr) hbh
      refine ⟨pe, W'', e1, ?_⟩
      cases pe with
      | none => exact e2
      | some c => exact e2
end Go.Proofs.YtjmpkbmgcbalkaaGreatDoor
/- The walk without memory: a function's contract out of the walk of its body. Whatever program. -/
namespace Go.Proofs.YtjmpkbmgcbalkaaGreatDoor
open Go.RowKit
set_option linter.unusedVariables false
variable {P : Program} {X : En} {tb : Tab}
def argsE : Nat → List T → List (Nat × T)
  | _, [] => []
  | i, t :: r => (i, t) :: argsE (i + 1) r
/-- the state at the head of a function -/
def St.head (n : Nat) (args : List T) : St := { n := n, env := argsE 0 args, bs := [], lv := [] }
/-- what a result variable holds -/
def resT (tb : Tab) (st : St) : ResultVar → Option T
  | .tmp t => some (tget st.env t)
  | .cell x t => match lk t tb.siz with
    | some q => match tget st.env x with
      | .ptr i o => match lk i st.bs with
        | some cs => match q.2 with
          | true => match toVs ((cs.drop o).take q.1) with
            | some l => match Nat.beq l.length q.1 with
              | true => some (.v (.agg l))
              | false => none
            | none => none
          | false => cs[o]?
        | none => none
      | _ => none
    | none => none
def resTs (tb : Tab) (st : St) : List ResultVar → Option (List T)
  | [] => some []
  | x :: r => match resT tb st x with
    | some t => match resTs tb st r with
      | some ts => some (t :: ts)
      | none => none
    | none => none
def resOk (ts : List T) (r : T) : Prop := match ts with
  | [t] => LeT t r ∧ r.pure = true
  | ts => match r with
    | .tup l => LeTs ts l ∧ T.pures l = true
    | _ => False
def endQ (tb : Tab) (rs : List ResultVar) (r : T) : Exit → St → Prop
  | .normal, st => match resTs tb st rs with
    | some ts => resOk ts r
    | none => False
  | .ret, st => match resTs tb st rs with
    | some ts => resOk ts r
    | none => False
  | _, _ => False
theorem resT_rep (hT : TabOk P tb) {base : Nat} {S : Nat → Prop} {st : St} {a : Act} {w : World} {g : Gh} (hd : Hd P X base S st a w g) {x : ResultVar} {t : T} (h : resT tb st x = some t) :
    ∃ v, ((match x with | .tmp t => pure (a.tmps.getD t undef) | .cell y t => do loadVar t (← asAddr (a.tmps.getD y undef))) : Sem Value).run P w = .ok v w ∧ RepT P w g t v := by
  cases x with
  | tmp s => cases h; exact ⟨_, rfl, hd.env s⟩
  | cell y s =>
    unfold resT at h
    dsimp only at h
    split at h <;> try cases h
    rename_i q hq
    obtain ⟨s1, s2, s3, s4, s5, s6⟩ := hT.siz hq
    split at h <;> try cases h
    rename_i i of hx
    have hev := hd.env y
    rw [hx] at hev
    have hev' : a.tmps.getD y undef = .pointer (some ⟨(g.ρ i).1, (g.ρ i).2 + of, none⟩) := hev
    split at h <;> try cases h
    rename_i cs hcs
    obtain ⟨us, u1, u2, u3⟩ := hd.mm.vals hcs
    split at h
    · rename_i hag
      split at h <;> try cases h
      rename_i l hl
      split at h <;> try cases h
      rename_i hlen
      have hlen' : l.length = q.1 := Nat.eq_of_beq_eq_true hlen
      have hrep : RepL w g.L l ((us.drop of).take q.1) := toVs_rep (P := P) hl (by rw [List.length_take, List.length_drop, List.length_take, List.length_drop, u1]) fun j t' hj => by
        rw [List.getElem?_take] at hj ⊢
        split at hj
        · rw [List.getElem?_drop] at hj ⊢
          rw [if_pos (by assumption)]
          exact u2 _ _ hj
        · cases hj
      refine ⟨.agg ((us.drop of).take q.1).toArray, ?_, ⟨_, rfl, by simpa using hrep⟩⟩
      dsimp only
      rw [hev']
      simp only [Sem.run_bind, asAddr, Sem.run_pure, Result.andThen_ok]
      exact run_loadVar_agg s1 s3 (s4.trans hag) (cs := (us.drop of).take q.1) (by rw [s2, hrep.length, hlen']) fun j u hu => by
        rw [List.getElem?_take] at hu
        split at hu
        · rw [List.getElem?_drop] at hu
          have := u3 _ u hu
          rwa [Nat.add_assoc]
        · cases hu
    · rename_i hag
      obtain ⟨u, hu, hr, _⟩ := u2 _ _ h
      refine ⟨u, ?_, hr⟩
      dsimp only
      rw [hev']
      simp only [Sem.run_bind, asAddr, Sem.run_pure, Result.andThen_ok]
      exact run_loadVar_one s3 (s4.trans hag) (u3 _ _ hu)
theorem resTs_rep (hT : TabOk P tb) {base : Nat} {S : Nat → Prop} {st : St} {a : Act} {w : World} {g : Gh} (hd : Hd P X base S st a w g) : ∀ {rs : List ResultVar} {ts : List T}, resTs tb st rs = some ts →
    ∃ vs, (rs.mapM (fun x => (match x with | .tmp t => pure (a.tmps.getD t undef) | .cell y t => do loadVar t (← asAddr (a.tmps.getD y undef)) : Sem Value))).run P w = .ok vs w ∧ RepTs P w g ts vs
  | [], ts, h => by cases h; exact ⟨[], rfl, rfl⟩
  | x :: r, ts, h => by
    unfold resTs at h
    split at h <;> try cases h
    rename_i t ht
    split at h <;> try cases h
    rename_i ts' hts
    obtain ⟨v, hv, hr⟩ := resT_rep hT hd ht
    obtain ⟨vs, hvs, hrs⟩ := resTs_rep hT hd hts
    refine ⟨v :: vs, ?_, ⟨v, vs, rfl, hr, hrs⟩⟩
    rw [List.mapM_cons]
    simp only [Sem.run_bind, hv, hvs, Result.andThen_ok, Sem.run_pure]
theorem results_run (hT : TabOk P tb) {base : Nat} {S : Nat → Prop} {st : St} {a : Act} {w : World} {g : Gh} (hd : Hd P X base S st a w g) {fn : Func} {r : T} {ts : List T} (h : resTs tb st fn.results.toList = some ts) (ho : resOk ts r) : ∃ v, (results fn a.tmps).run P w = .ok v w ∧ RepT P w g r v ∧ r.pure = true := by
  obtain ⟨vs, h1, h2⟩ := resTs_rep hT hd h
  have hrun : (fn.results.mapM (fun x => (match x with | .tmp t => pure (a.tmps.getD t undef) | .cell y t => do loadVar t (← asAddr (a.tmps.getD y undef)) : Sem Value))).run P w = .ok vs.toArray w := by
    rw [Array.mapM_eq_mapM_toList]
    simp only [Sem.run_map, h1, Result.andThen_ok]
  have hl := h2.length
  have hres : (results fn a.tmps).run P w = ((fn.results.mapM (fun x => (match x with | .tmp t => pure (a.tmps.getD t undef) | .cell y t => do loadVar t (← asAddr (a.tmps.getD y undef)) : Sem Value))).run P w).andThen fun vs w' => ((pure (if h : vs.size = 1 then vs[0] else .tuple vs)) : Sem Value).run P w' := by
    unfold results
    rw [Sem.run_bind]
    rfl
  by_cases h3 : ∃ t, ts = [t]
  · obtain ⟨t, rfl⟩ := h3
    obtain ⟨v, us, rfl, r1, r2⟩ := h2
    obtain rfl : us = [] := r2
    exact ⟨v, by rw [hres, hrun]; rfl, LeT.rep _ _ _ ho.1 r1, ho.2⟩
  · have hne : vs.toArray.size ≠ 1 := fun e => h3 (by
      rw [List.size_toArray, hl] at e
      match ts, e with
      | [t], _ => exact ⟨t, rfl⟩)
    refine ⟨.tuple vs.toArray, by rw [hres, hrun, Result.andThen_ok, dif_neg hne]; rfl, ?_⟩
    unfold resOk at ho
    split at ho
    · rename_i t; exact absurd ⟨t, rfl⟩ h3
    · split at ho
      · rename_i l
        exact ⟨⟨_, rfl, LeTs.rep _ _ _ ho.1 h2⟩, ho.2⟩
      · exact ho.elim
theorem argsE_get {w : World} {g : Gh} : ∀ {args : List T} {vs : List Value} (k t : Nat), RepTs P w g args vs → RepT P w g (tget (argsE k args) t) (if t < k then undef else vs.getD (t - k) undef)
  | [], _, k, t, h => by rw [show _ = [] from h]; trivial
  | x :: r, _, k, t, ⟨u, us, e, h1, h2⟩ => by
    subst e
    unfold tget
    rw [argsE]
    by_cases hk : t = k
    · subst hk
      rw [lk_cons_eq, if_neg (Nat.lt_irrefl _)]
      simpa using h1
    · rw [lk_cons_ne _ _ hk]
      have ih := argsE_get (k + 1) t h2
      unfold tget at ih
      by_cases hlt : t < k
      · rw [if_pos hlt]
        rw [if_pos (by omega)] at ih
        exact ih
      · rw [if_neg hlt]
        rw [if_neg (by omega)] at ih
        rwa [show (u :: us).getD (t - k) undef = us.getD (t - (k + 1)) undef by
          rw [show t - k = (t - (k + 1)) + 1 by omega]; simp]
theorem Hd.putObj {base : Nat} {S : Nat → Prop} {st : St} {a' : Act} {W : World} {g' : Gh} {l : Nat} (o : Obj) (h : Hd P X base S st a' W g') {o0 : Obj} (hr : W.heap[l]? = some o0) (hc0 : o0.isCells = false) (hE : ¬ X.Eb l) : Hd P X base S st a' (W.putObj l o) g' := by
  refine h.upd (putObj_upd W l o) (fun i hi e => ?_) (fun {b o} hL e => ?_) (fun k e b hk hbk eb => ?_) (fun b hbl => by subst hbl; exact hE)
  · obtain ⟨c, t, fr, hc⟩ := h.mm.bc hi
    rw [e, hr] at hc; cases hc; cases hc0
  · obtain ⟨u, hu⟩ := h.mm.Lc hL
    unfold World.cell? at hu
    dsimp only at hu
    rw [e, hr] at hu
    cases o0 <;> first | (cases hc0; done) | cases hu
  · obtain ⟨n0, vals, o1, _⟩ := h.mm.own hk
    rcases o1.2 with ⟨h0, _⟩ | ⟨gg, cap, cur, h0, _, h1, _⟩
    · rw [h0] at hbk; cases hbk
    · rw [h0] at hbk; cases hbk; dsimp only at eb; rw [eb, hr] at h1; cases h1; cases hc0
theorem leaves_marks (hT : TabOk P tb) {base : Nat} {S : Nat → Prop} {fn : Func} {r : T} {ts : List T} {R : Ending → World → Prop} {w0 : World} (hE0 : X.E w0) : ∀ (ms : List Nat) (st : St) (a : Act) (w : World) (g : Gh), Hd P X base S st a w g → MarksOk w0 w ms → resTs tb st fn.results.toList = some ts → resOk ts r → (∀ v w', Upd (fun b => w0.heap.size ≤ b) w w' → Hd P X base S st a w' g → RepT P w' g r v → r.pure = true → R (.returned v) w') → LeavesInM Fence.wide 1 P fn a.tmps R (marks ms) .returning w
  | [], st, a, w, g, hd, hm, hts, hr, hR => by
    obtain ⟨v, v1, v2, v3⟩ := results_run hT hd hts hr
    exact ⟨v, v1, hR v w (Upd.refl _ _) hd v2 v3⟩
  | m :: ms, st, a, w, g, hd, hm, hts, hr, hR => by
    obtain ⟨h1, h2⟩ := hm.2 m (by simp)
    have hmE : ¬ X.Eb m := fun hE => by have := X.lt hE0 hE; omega
    refine ⟨by simp, .inl ⟨m, _, rfl, run_takeDeferred h2, ?_⟩⟩
    have hnd := List.nodup_cons.1 hm.1
    refine leaves_marks hT hE0 ms st a _ g (hd.putObj _ h2 rfl hmE) ⟨hnd.2, fun r' hr' => ?_⟩ hts hr fun v w' hu hd' hrv hp => hR v w' (((putObj_upd w m _).mono fun k hk => (by rw [hk]; exact h1)).trans hu) hd' hrv hp
    obtain ⟨h3, h4⟩ := hm.2 r' (by simp [hr'])
    refine ⟨h3, ?_⟩
    rw [World.putObj_heap_other (fun e => hnd.1 (by rw [← e]; exact hr'))]
    exact h4
/-- A FUNCTION'S CONTRACT -/
theorem fn_of (hT : TabOk P tb) (hm : P.follows .mixedOrders = true) {f : FuncId} {fn : Func} {c : Code} {args : List T} {r : T} (hf : P.funcs[f]? = some fn) (hb : fn.body = some c)
    (hen : ∀ (vs : Array Value) (w : World), (callFunc f vs).run P w = .ok (.enter f vs) w) (hn : Nat.ble args.length fn.ntmps = true)
    (h : aCode P X tb c (endQ tb fn.results.toList r) (St.head fn.ntmps args)) : Fn P X f args r := by
  refine ⟨hen, fun w L vs hE hL hargs => ?_⟩
  have hn' := Nat.le_of_ble_eq_true hn
  have hvl := hargs.length
  have hd : Hd P X w.heap.size (fun _ => False) (St.head fn.ntmps args) { tmps := vs.toArray ++ Array.replicate (fn.ntmps - vs.toArray.size) undef, defers := [] } w ⟨L, fun _ => (0, 0), fun _ => undef⟩ := by
    refine ⟨by simp [St.head]; omega, fun t => ?_, ⟨fun hi => (by cases hi), fun hi => (by cases hi), fun hi => (by cases hi), fun hi => (by cases hi), fun hi => (by cases hi), fun hi => (by cases hi), fun hi => (by cases hi), fun hi => (by cases hi), fun hi => (by cases hi), hL, fun hi => (by cases hi), fun hi => (by cases hi)⟩, hE, Nat.le_refl _⟩
    have := argsE_get 0 t hargs
    rw [if_neg (by omega), Nat.sub_zero] at this
    refine Eq.mpr ?_ this
    congr 1
    show ((vs.toArray ++ Array.replicate (fn.ntmps - vs.toArray.size) undef).getD t undef) = _
    rw [Array.getD_eq_getD_getElem?, List.getD_eq_getElem?_getD]
    by_cases ht : t < vs.length
    · rw [Array.getElem?_append_left (by simpa using ht)]; simp
    · rw [Array.getElem?_append_right (by simpa using ht), List.getElem?_eq_none (by omega)]
      by_cases h2 : t - vs.toArray.size < fn.ntmps - vs.toArray.size
      · rw [Array.getElem?_replicate, if_pos h2]; rfl
      · rw [Array.getElem?_replicate, if_neg h2]
  have hw := code_wp hT hm c X (fun _ h => h) w.heap.size fn.ntmps (fun _ => False) Fence.wide 1 (.inl rfl) (fun _ => True) (fun _ _ => trivial) _ _ _ w _ (fun ch st h => h.elim) (fun l hl => by cases hl) h hd rfl
  refine callsIn_wide.1 (callsIn_of_wp_marks (n := 1) hf hb trivial (wpIn_mono hw ?_))
  rintro e a' w' ⟨st', g', q1, q2, q3, q4, q5, ms, q6, q7⟩
  rw [List.append_nil] at q6
  have fin : (match resTs tb st' fn.results.toList with | some ts => resOk ts r | none => False) → LeavesInM Fence.wide 1 P fn a'.tmps (fun e w' => ∃ v L', e = .returned v ∧ Below w.heap.size w w' ∧ Same L w L' w' ∧ (∀ {b o}, L' b o → L b o ∨ w.heap.size ≤ b) ∧ (∀ {b o}, L' b o → ∃ u, w'.cell? ⟨b, o, none⟩ = some u) ∧ RepT P w' ⟨L', fun _ => (0, 0), fun _ => undef⟩ r v) a'.defers .returning w' := fun hr => by
    split at hr
    · rename_i ts hts
      rw [q6]
      refine leaves_marks hT hE ms st' a' w' g' q2 q7 hts hr fun v w2 hu hd2 hrv hp => ?_
      have hu1 := q3.upd
      refine ⟨v, g'.L, rfl, ⟨hu.os.trans hu1.os, hu.tape.trans hu1.tape, hu.output.trans hu1.output, Nat.le_trans hu1.size hu.size, fun k hk => ?_⟩, fun b o u h1 h2 => ?_, fun {b o} h => (q3.newL h).imp id And.left, hd2.mm.Lc, RepT.pure (g := g') (g' := ⟨g'.L, fun _ => (0, 0), fun _ => undef⟩) (w' := w2) hp (Same.refl _ _) hrv⟩
      · rw [hu.block k (Nat.lt_of_lt_of_le hk hu1.size) (by omega)]
        exact hu1.block k hk (by rintro (h | h); exact h; omega)
      · obtain ⟨h3, h4⟩ := q3.same b o u h1 h2
        have hbl := World.block_lt_of_cell? w _ h2
        exact ⟨h3, hu.cell h4 (by dsimp only at *; omega)⟩
    · exact hr.elim
  cases e with
  | normal => exact fin q1
  | ret => exact fin q1
  | exit id => exact q1.elim
  | goto l => exact q1.elim
  | panic ch => exact q1.elim
  | outgrown => exact q1.elim
/-- a function with a body of its own is entered -/
theorem enter_of {f : FuncId} (h : ((P.funcs[f]?).map fun fn => fn.name == "runtime.NumGoroutine" || fn.body.isNone) = some false) (vs : Array Value) (w : World) : (callFunc f vs).run P w = .ok (.enter f vs) w := by
  cases hf : P.funcs[f]? with
  | none => rw [hf] at h; cases h
  | some fn =>
    rw [hf] at h
    simp only [Option.map_some, Option.some.injEq, Bool.or_eq_false_iff] at h
    unfold callFunc
    simp only [Sem.run_bind, run_program, Result.andThen_ok, hf, h.1, h.2, Bool.false_eq_true, if_false]
    rfl
def bodyOf (fn : Func) : Code := match fn.body with
  | some c => c
  | none => .skip
/-- the same, of a function of the program's form -/
theorem fn_prog (hT : TabOk P tb) (hm : P.follows .mixedOrders = true) {f : FuncId} (fn : Func) {args : List T} {r : T} (hf : P.funcs[f]? = some fn) (hb : (fn.name == "runtime.NumGoroutine" || fn.body.isNone) = false) (hn : Nat.ble args.length fn.ntmps = true)
    (h : aCode P X tb (bodyOf fn) (endQ tb fn.results.toList r) (St.head fn.ntmps args)) : Fn P X f args r := by
  cases hc : fn.body with
  | none => rw [hc] at hb; simp at hb
  | some c =>
    refine fn_of hT hm hf hc (enter_of (by rw [hf, Option.map_some, hb])) hn ?_
    unfold bodyOf at h
    rw [hc] at h
    exact h
end Go.Proofs.YtjmpkbmgcbalkaaGreatDoor
/- The walk without memory: the program's types, asked by one reckoning. Whatever program. -/
namespace Go.Proofs.YtjmpkbmgcbalkaaGreatDoor
open Go.RowKit
set_option linter.unusedVariables false
variable {P : Program}
theorem lk_all {β : Type} {p : Nat × β → Bool} {l : List (Nat × β)} (h : l.all p = true) {n : Nat} {x : β} (hx : lk n l = some x) : p (n, x) = true := List.all_eq_true.1 h _ (lk_mem hx)
def fldB (P : Program) (r : Nat × List (Nat × Nat × Bool)) : Bool := match P.underlying r.1 with
  | some (.struct fs) => decide (fs.toList.map (fun f => (f.offset, P.cellsOf f.type, aggB P f.type)) = r.2) && fs.toList.all (fun f => (P.info? f.type).isSome && (P.underlying f.type).isSome && P.cellsOf f.type != 0)
  | _ => false
def sizB (P : Program) (r : Nat × (Nat × Bool)) : Bool := (P.underlying r.1).isSome && aggB P r.1 == r.2.2 && (r.2.2 || r.2.1 == 1) && r.2.1 != 0 && match P.info? r.1 with
  | some i => i.size == r.2.1 && i.bytes ≤ 100000 && match i.zero with
    | some z => z.cells.size == r.2.1
    | none => false
  | none => false
def eltB (P : Program) (r : Nat × Nat) : Bool := match P.underlying r.1 with
  | some (.slice e) => e == r.2
  | _ => false
def zeqB : V → Value → Bool
  | .int k n, .int k' n' => k == k' && n == n'
  | .bool b, .bool b' => b == b'
  | .str s, .string s' => decide (s = s')
  | .nils, .slice none 0 0 => true
  | .nili, .nilIface => true
  | .raw (.pointer none), .pointer none => true
  | .raw .nilFunc, .nilFunc => true
  | .raw (.map none), .map none => true
  | _, _ => false
theorem zeqB_eq {x : V} {u : Value} (h : zeqB x u = true) : u = zv x ∧ zok x = true := by
  unfold zeqB at h
  split at h <;> first | (cases h; done) | (exact ⟨rfl, rfl⟩) | skip
  · simp at h; obtain ⟨rfl, rfl⟩ := h; exact ⟨rfl, rfl⟩
  · simp at h; subst h; exact ⟨rfl, rfl⟩
  · simp at h; subst h; exact ⟨rfl, rfl⟩
def zerL : List V → List Value → Bool
  | [], [] => true
  | x :: xs, u :: us => zeqB x u && zerL xs us
  | _, _ => false
theorem zerL_eq : ∀ {xs : List V} {us : List Value}, zerL xs us = true → us = xs.map zv ∧ xs.all zok = true
  | [], [], _ => ⟨rfl, rfl⟩
  | x :: xs, u :: us, h => by
    rw [zerL, Bool.and_eq_true] at h
    obtain ⟨h1, h2⟩ := zeqB_eq h.1
    obtain ⟨h3, h4⟩ := zerL_eq h.2
    exact ⟨by rw [h1, h3]; rfl, by rw [List.all_cons, h2, h4]; rfl⟩
  | [], _ :: _, h => by cases h
  | _ :: _, [], h => by cases h
def zerB (P : Program) (r : Nat × List V) : Bool := match P.info? r.1 with
  | some i => match i.zero with
    | some v => zerL r.2 v.cells.toList
    | none => false
  | none => false
def strB (P : Program) (r : Nat × Unit) : Bool := match P.underlying r.1 with
  | some .string => true
  | _ => false
def booB (P : Program) (r : Nat × Unit) : Bool := match P.underlying r.1 with
  | some .bool => true
  | _ => false
def intB (P : Program) (r : Nat × IntKind) : Bool := match P.underlying r.1 with
  | some (.int k) => k == r.2
  | _ => false
def conB (P : Program) (r : Nat × Bool) : Bool := match P.underlying r.1 with
  | some (.interface _) => r.2
  | some _ => !r.2
  | none => false
def flatB (P : Program) : Nat → List Field → List Bool → Bool
  | _, [], [] => true
  | i, f :: fs, k :: ks => f.name != "_" && (f.offset == i && ((match P.underlying f.type with
    | some .string => k
    | some .bool => !k
    | _ => false) && flatB P (i + 1) fs ks))
  | _, _, _ => false
theorem flatB_ok {P : Program} : ∀ (i : Nat) (fs : List Field) (ks : List Bool), flatB P i fs ks = true → FlatOk P i fs ks
  | _, [], [], _ => trivial
  | i, f :: fs, k :: ks, h => by
    rw [flatB, Bool.and_eq_true, Bool.and_eq_true, Bool.and_eq_true] at h
    obtain ⟨h1, h2, h3, h4⟩ := h
    refine ⟨by simpa using h1, by simpa using h2, ?_, flatB_ok (i + 1) fs ks h4⟩
    split at h3
    · rename_i e; rw [e, if_pos h3]
    · rename_i e; rw [e, if_neg (by cases k <;> simp_all)]
    · cases h3
  | _, [], _ :: _, h => by cases h
  | _, _ :: _, [], h => by cases h
def eqsB (P : Program) (r : Nat × List Bool) : Bool := match P.underlying r.1 with
  | some (.struct fs) => !P.stoodInHeld r.1 && (!P.eqGuardType P.depth r.1 && flatB P 0 fs.toList r.2)
  | _ => false
def tabB (P : Program) (tb : Tab) : Bool := (tb.fld.all (fldB P) && tb.siz.all (sizB P) && tb.elt.all (eltB P) && tb.zer.all (zerB P) && tb.str.all (strB P) && tb.boo.all (booB P) && tb.ints.all (intB P) && tb.con.all (conB P)) && tb.eqs.all (eqsB P)
theorem tabOk_of {tb : Tab} (h : tabB P tb = true) : TabOk P tb := by
  unfold tabB at h
  simp only [Bool.and_eq_true] at h
  obtain ⟨⟨⟨⟨⟨⟨⟨⟨h1, h2⟩, h3⟩, h4⟩, h5⟩, h6⟩, h7⟩, h8⟩, h9⟩ := h
  have siz : ∀ {t q}, lk t tb.siz = some q → ∃ i z, P.info? t = some i ∧ i.size = q.1 ∧ i.zero = some z ∧ z.cells.size = q.1 ∧ i.bytes ≤ 100000 ∧ (P.underlying t).isSome = true ∧ aggB P t = q.2 ∧ (q.2 = false → q.1 = 1) ∧ q.1 ≠ 0 := fun {t q} ht => by
    have := lk_all h2 ht
    unfold sizB at this
    simp only [Bool.and_eq_true] at this
    obtain ⟨⟨⟨⟨g1, g2⟩, g3⟩, g4⟩, g5⟩ := this
    split at g5
    · rename_i i hi
      simp only [Bool.and_eq_true] at g5
      obtain ⟨⟨g6, g7⟩, g8⟩ := g5
      split at g8
      · rename_i z hz
        exact ⟨i, z, hi, by simpa using g6, hz, by simpa using g8, by simpa using g7, g1, by simpa using g2, fun hq => by simpa [hq] using g3, by simpa using g4⟩
      · cases g8
    · cases g5
  refine ⟨fun {t ks} ht => ?_, fun {t l} ht => ?_, fun {t q} ht => ?_, fun {t q} ht => ?_, fun {t e} ht => ?_, fun {t z} ht => ?_, fun {t} ht => ?_, fun {t} ht => ?_, fun {t k} ht => ?_, fun {t} ht => ?_, fun {t} ht => ?_⟩
  · have := lk_all h9 ht
    unfold eqsB at this
    split at this
    · rename_i fs hfs
      rw [Bool.and_eq_true, Bool.and_eq_true] at this
      exact ⟨fs, hfs, by simpa using this.1, by simpa using this.2.1, flatB_ok _ _ _ this.2.2⟩
    · cases this
  · have := lk_all h1 ht
    unfold fldB at this
    split at this
    · rename_i fs hfs
      rw [Bool.and_eq_true, decide_eq_true_eq] at this
      exact ⟨fs, hfs, this.1, this.2⟩
    · cases this
  · obtain ⟨i, z, a1, a2, a3, a4, a5, a6, a7, a8, a9⟩ := siz ht
    exact ⟨by rw [a1]; rfl, by simp [Program.cellsOf, a1, a2], a6, a7, a8, a9⟩
  · obtain ⟨i, z, a1, a2, a3, a4, a5, a6, a7, a8, a9⟩ := siz ht
    exact ⟨i, z, a1, a3, a4, a5⟩
  · have := lk_all h3 ht
    unfold eltB at this
    split at this
    · rename_i e' he
      rw [he, show e' = e by simpa using this]
    · cases this
  · have := lk_all h4 ht
    unfold zerB at this
    split at this
    · rename_i i hi
      split at this
      · rename_i v hv
        obtain ⟨q1, q2⟩ := zerL_eq this
        exact ⟨i, v, hi, hv, q1, q2⟩
      · cases this
    · cases this
  · obtain ⟨u, hu⟩ := Option.isSome_iff_exists.1 ht
    have := lk_all h5 hu
    unfold strB at this
    split at this
    · assumption
    · cases this
  · obtain ⟨u, hu⟩ := Option.isSome_iff_exists.1 ht
    have := lk_all h6 hu
    unfold booB at this
    split at this
    · assumption
    · cases this
  · have := lk_all h7 ht
    unfold intB at this
    split at this
    · rename_i k' hk
      rw [hk, show k' = k by simpa using this]
    · cases this
  · have := lk_all h8 ht
    unfold conB at this
    split at this
    · rename_i ms hms; exact ⟨ms, hms⟩
    · simp at this
    · cases this
  · have := lk_all h8 ht
    unfold conB at this
    split at this
    · simp at this
    · rename_i d hne hd
      exact ⟨d, hd, fun ms e => hne ms e⟩
    · cases this
end Go.Proofs.YtjmpkbmgcbalkaaGreatDoor
/- The walk without memory: its steps. -/
namespace Go.Proofs.YtjmpkbmgcbalkaaGreatDoor
open Go.RowKit
set_option linter.unusedVariables false
/-- a test: two ways -/
theorem cmp_split {p : Prop} {K : Bool → Prop} (h1 : p → K true) (h2 : ¬ p → K false) : ∀ q : Bool, (q = true ↔ p) → K q := fun q hq => by
  cases q
  · exact h2 (fun h => by have := hq.2 h; cases this)
  · exact h1 (hq.1 rfl)
theorem cmp_true {p : Prop} {K : Bool → Prop} (hp : p) (h1 : K true) : ∀ q : Bool, (q = true ↔ p) → K q := cmp_split (fun _ => h1) (fun h => absurd hp h)
theorem cmp_false {p : Prop} {K : Bool → Prop} (hp : ¬ p) (h1 : K false) : ∀ q : Bool, (q = true ↔ p) → K q := cmp_split (fun h => absurd h hp) (fun _ => h1)
theorem cmp_bool {p : Prop} [Decidable p] {K : Bool → Prop} (h1 : K (decide p)) : ∀ q : Bool, (q = true ↔ p) → K q := cmp_split (fun h => by rw [decide_eq_true h] at h1; exact h1) (fun h => by rw [decide_eq_false h] at h1; exact h1)
theorem st_eq {α : Type} {a : α} {K : α → Prop} (h : K a) : ∃ n, a = n ∧ K n := ⟨a, rfl, h⟩
theorem wrap64 {a : Int} (h1 : -9223372036854775808 ≤ a) (h2 : a ≤ 9223372036854775807) : IntKind.i64.wrap a = a := IntWalk.i64_in _ ⟨by omega, by omega⟩
theorem st_wrap {a : Int} {K : Int → Prop} (h1 : -9223372036854775808 ≤ a) (h2 : a ≤ 9223372036854775807) (h : K a) : ∃ n, IntKind.i64.wrap a = n ∧ K n := ⟨a, wrap64 h1 h2, h⟩
theorem st_succ {k : Nat} {K : Int → Prop} (hk : k ≤ 1000000000000) (h : K ((k + 1 : Nat) : Int)) : ∃ n, IntKind.i64.wrap ((k : Nat) + 1) = n ∧ K n := ⟨_, wrap64 (by omega) (by omega), by rw [show ((k : Int) + 1) = ((k + 1 : Nat) : Int) by omega]; exact h⟩
theorem st_min {a : Nat} (b : Nat) {K : Int → Prop} (h : K ((min a b : Nat) : Int)) : ∃ n, (if (b : Int) < (a : Int) then (b : Int) else (a : Int)) = n ∧ K n := ⟨_, rfl, by rw [show (if (b : Int) < (a : Int) then (b : Int) else (a : Int)) = ((min a b : Nat) : Int) by split <;> omega]; exact h⟩
theorem st_idx {α : Type} {xs : List α} {enc : α → List V} {i m : Nat} {K : List V → Prop} (h : i < xs.length) (hm : (enc (xs[i]'h)).length = m) (hK : K (enc (xs[i]'h))) : ∃ c, (0 : Int) ≤ (i : Nat) ∧ (xs.map enc)[((i : Nat) : Int).toNat]? = some c ∧ c.length = m ∧ K c :=
  ⟨_, by omega, by rw [Int.toNat_natCast, List.getElem?_map, List.getElem?_eq_getElem h]; rfl, hm, hK⟩
theorem st_byte {s : ByteArray} {i : Nat} {K : UInt8 → Prop} (h : i < s.size) (hK : K (s[i]'h)) : ∃ c : UInt8, (0 : Int) ≤ (i : Nat) ∧ s.data.toList[((i : Nat) : Int).toNat]? = some c ∧ K c :=
  ⟨_, by omega, by rw [Int.toNat_natCast, Array.getElem?_toList, Array.getElem?_eq_getElem h]; rfl, hK⟩
theorem st_cut {s : ByteArray} (a b : Nat) {l h : Int} {K : ByteArray → Prop} (e1 : l = a) (e2 : h = b) (h1 : a ≤ b) (h2 : b ≤ s.size) (hK : K (s.extract a b)) : ∃ a b : Nat, l = a ∧ h = b ∧ a ≤ b ∧ b ≤ s.size ∧ ∃ z, s.extract a b = z ∧ K z := ⟨a, b, e1, e2, h1, h2, _, rfl, hK⟩
theorem st_sub {xs : List (List V)} (a b : Nat) {l h : Int} {m : Nat} {K : List (List V) → Prop} (e1 : l = a) (e2 : h = b) (h1 : a ≤ b) (h2 : b ≤ xs.length) (h3 : ∀ c ∈ xs, c.length = m) {z : List (List V)} (hz : (xs.take b).drop a = z) (hK : K z) : ∃ a b : Nat, l = a ∧ h = b ∧ a ≤ b ∧ b ≤ xs.length ∧ (∀ c ∈ xs, c.length = m) ∧ ∃ z, (xs.take b).drop a = z ∧ K z := ⟨a, b, e1, e2, h1, h2, h3, _, hz, hK⟩
theorem st_app {xs ys zs : List (List V)} {m : Nat} {K : List (List V) → Prop} (h1 : xs.length + ys.length ≤ 1000000000) (h2 : ∀ c ∈ ys, c.length = m) (hz : xs ++ ys = zs) (hK : K zs) : xs.length + ys.length ≤ 1000000000 ∧ (∀ c ∈ ys, c.length = m) ∧ ∃ zs, xs ++ ys = zs ∧ K zs := ⟨h1, h2, _, hz, hK⟩
theorem st_cat {s t z : ByteArray} {K : ByteArray → Prop} (h : s.size + t.size ≤ 9223372036854775807) (hz : s ++ t = z) (hK : K z) : s.size + t.size ≤ 9223372036854775807 ∧ ∃ z, s ++ t = z ∧ K z := ⟨h, _, hz, hK⟩
/-- what is appended one by one -/
theorem map_take_succ {α : Type} {enc : α → List V} {xs : List α} {i : Nat} (h : i < xs.length) : (xs.take i).map enc ++ [enc xs[i]] = (xs.take (i + 1)).map enc := by
  rw [List.take_succ_eq_append_getElem h, List.map_append]; rfl
/-- a pure call -/
theorem st_call {f : FuncId} {P : Program} {X : En} {bs args : List T} {r : T} {K : T → Prop} (h : Fn P X f args r) (hl : LeTs bs args) (h1 : T.pures args = true) (h2 : r.pure = true) (hK : K r) : ∃ (args : List T) (r : T), Fn P X f args r ∧ LeTs bs args ∧ T.pures args = true ∧ r.pure = true ∧ K r := ⟨args, r, h, hl, h1, h2, hK⟩
end Go.Proofs.YtjmpkbmgcbalkaaGreatDoor
