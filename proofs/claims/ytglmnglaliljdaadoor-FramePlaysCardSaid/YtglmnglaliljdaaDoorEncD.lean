/- size.encoded: the lengths of more than one byte. Conditions: the package's variables hold their sentinels. -/
import Derived.Test.YtglmnglaliljdaaDoorEncC
namespace Go.Proofs.YtglmnglaliljdaaDoor.Size
open Go.RowKit
set_option linter.unusedVariables false
attribute [local go_sem] Oper.semAt_some
/-- what stands between two rounds of encoded's loop -/
def Between (r : Rng.Rec) (O D base : Nat) (pre : List UInt8) (W : World) : Prop :=
  W.heap[D]? = some (.deferred (some [])) ∧ W.heap[D + 1]? = some (r.at .ready none) ∧ base ≤ W.heap.size ∧
    W.heap[O + 1]? = some (.cells #[.func (.func 33) #[] #[.pointer (some ⟨O, 0, none⟩)]] 73 (0, 0)) ∧
    ∃ v, W.heap[O]? = some (.cells #[v] 45 (0, 0)) ∧ BS W (fun b => base ≤ b) v pre.reverse
theorem BS.upd {w w' : World} {G : Nat → Prop} {v : Value} {l : List UInt8} (h : BS w G v l) {S : Nat → Prop} (hu : Upd S w w') (hs : ∀ k, G k → ¬ S k) : BS w' G v l := by
  rcases h with h | ⟨g, c, hG, rfl, hc⟩
  · exact .inl h
  · exact .inr ⟨g, c, hG, rfl, fun j u hj => hu.cell (hc j u hj) (hs g hG)⟩
theorem between_upd {r : Rng.Rec} {O D base : Nat} {pre : List UInt8} {W W' : World} (h : Between r O D base pre W) {S : Nat → Prop} (hu : Upd S W W') (h1 : ¬ S D) (h2 : ¬ S (D + 1)) (h3 : ¬ S O) (h5 : ¬ S (O + 1)) (h4 : ∀ k, base ≤ k → ¬ S k) : Between r O D base pre W' := by
  obtain ⟨a1, a2, a3, a4, v, a5, a6⟩ := h
  exact ⟨hu.blk a1 h1, hu.blk a2 h2, Nat.le_trans a3 hu.size, hu.blk a4 h5, v, hu.blk a5 h3, a6.upd hu h4⟩
set_option maxRecDepth 100000 in
set_option maxHeartbeats 4000000 in
theorem encoded_long (n : Nat) (w : World) (p : Nat → Addr) (hG : Globs w p) (h0 : 128 ≤ n) (h1 : n ≤ 16777215) :
    Calls Tryd.prog 25 #[.int .i64 n] w fun e w' => e = .returned (.tuple #[.string ⟨(UInt8.ofNat (128 + (partsOf 4 n).length) :: (partsOf 4 n).reverse).toArray⟩, .nilIface]) ∧ Below w.heap.size w w' := by
  have k0 := hG.cell 4 (by decide)
  have q0 : decide ((n : Int) < 0) = false := by simp
  have q1 : decide ((16777215 : Int) < (n : Int)) = false := by simp; omega
  have q2 : decide ((n : Int) < 128) = false := by simp; omega
  have hpl : (partsOf 4 n).length ≤ 4 := by
    have h : ∀ k m, (partsOf k m).length ≤ k := by
      intro k
      induction k with
      | zero => intro m; exact Nat.le_refl _
      | succ k ih =>
        intro m
        unfold partsOf
        split
        · simp
        · rw [List.length_cons]; have := ih (m / 256); omega
    exact h 4 n
  clear hG
  refine Rng.calls_of_marks (n := 1) Tryd.func25 rfl ?_
  simp only [Tryd.ntmps25, List.size_toArray, List.length_cons, List.length_nil, Nat.reduceAdd, Nat.reduceSub, Array.replicate_succ, Array.replicate_zero, List.push_toArray, List.append_toArray, List.nil_append, List.cons_append]
  go_wp2_with fail
  refine (first_no n 120 (.pointer (some (p 4))) _ _ ?_ ?_).mono ?_
  · exact cell_new _ _ _ _ 0 rfl
  · exact cell_new _ _ _ _ 1 rfl
  rintro e w2 ⟨rfl, hb⟩
  have H2 := Aside.mk (below_then (below_new _ _) hb)
  clear hb k0
  go_wp2_with fail
  obtain ⟨W3, hW3⟩ : ∃ W3, W3 = (w2.alloc (.cells #[.slice none 0 0] 45)).alloc (.cells #[.nilFunc] 73) := ⟨_, rfl⟩
  have hO3 : W3.heap[w2.heap.size]? = some (.cells #[.slice none 0 0] 45 (0, 0)) := by rw [hW3]; exact blk_below (World.alloc_heap_new _ _) (below_new _ _)
  have hL3 : W3.heap[w2.heap.size + 1]? = some (.cells #[.nilFunc] 73 (0, 0)) := by
    have h := World.alloc_heap_new (w2.alloc (.cells #[.slice none 0 0] 45)) (.cells #[.nilFunc] 73)
    rw [World.size_alloc] at h
    rw [hW3]
    exact h
  have hb3 : Below w2.heap.size w2 W3 := by rw [hW3]; exact below_then (below_new _ _) (below_new _ _)
  have hs3 : W3.heap.size = w2.heap.size + 2 := by rw [hW3]; simp
  rw [← hW3]
  clear hW3
  have c3 : W3.cell? ⟨w2.heap.size + 1, 0, none⟩ = some .nilFunc := cel hL3 0 rfl
  have f3 := frz hL3 0
  have HO3 := Aside.mk hO3
  have HL3 := Aside.mk hL3
  have HB3 := Aside.mk hb3
  have HS3 := Aside.mk hs3
  have hst : (store ⟨w2.heap.size + 1, 0, none⟩ (.func (.func 33) #[] #[.pointer (some ⟨w2.heap.size, 0, none⟩)])).run Tryd.prog W3 = .ok () (W3.setCell ⟨w2.heap.size + 1, 0, none⟩ (.func (.func 33) #[] #[.pointer (some ⟨w2.heap.size, 0, none⟩)])) := by
    rw [run_store Tryd.prog W3 _ _ _ rfl]
    simp [c3, f3]
  have hL4 : (W3.setCell ⟨w2.heap.size + 1, 0, none⟩ (.func (.func 33) #[] #[.pointer (some ⟨w2.heap.size, 0, none⟩)])).heap[w2.heap.size + 1]? = some (.cells #[.func (.func 33) #[] #[.pointer (some ⟨w2.heap.size, 0, none⟩)]] 73 (0, 0)) := set_blk HL3.out 0 (.func (.func 33) #[] #[.pointer (some ⟨w2.heap.size, 0, none⟩)])
  have hO4 := blk_grown hO3 (set_grown W3 (w2.heap.size + 1) 0 (.func (.func 33) #[] #[.pointer (some ⟨w2.heap.size, 0, none⟩)])) (by simp)
  have hb4 := below_grown hb3 (set_grown W3 (w2.heap.size + 1) 0 (.func (.func 33) #[] #[.pointer (some ⟨w2.heap.size, 0, none⟩)])) (by omega)
  have hs4 : (W3.setCell ⟨w2.heap.size + 1, 0, none⟩ (.func (.func 33) #[] #[.pointer (some ⟨w2.heap.size, 0, none⟩)])).heap.size = w2.heap.size + 2 := by rw [← hs3]; simp [World.setCell]
  generalize W3.setCell ⟨w2.heap.size + 1, 0, none⟩ (.func (.func 33) #[] #[.pointer (some ⟨w2.heap.size, 0, none⟩)]) = W4 at hst hL4 hO4 hb4 hs4
  have HL4 := Aside.mk hL4
  have HO4 := Aside.mk hO4
  have HB4 := Aside.mk hb4
  have HS4 := Aside.mk hs4
  clear hO3 hL3 hb3 hs3 hL4 hO4 hb4 hs4 c3 f3 HO3 HL3 HB3 HS3
  rw [hst]
  clear hst
  go_wp2_with fail
  refine (parts_maker n W4).mono ?_
  rintro e w4 ⟨rfl, h4⟩
  have HB4' := Aside.mk (show w4.heap[W4.heap.size]? = some (.cells #[.int .i64 n] 3 (0, 0)) by rw [← h4]; exact World.alloc_heap_new _ _)
  have H34 := Aside.mk (show Below W4.heap.size W4 w4 by rw [← h4]; exact below_new _ _)
  have HS5 := Aside.mk (show w4.heap.size = W4.heap.size + 1 by rw [← h4]; simp)
  clear h4
  go_wp2_with fail
  refine Rng.wp_range (n := 1) (gf := 42) (lb := #[.pointer (some ⟨W4.heap.size, 0, none⟩)]) rfl (enters_of Tryd.func42 (by kernel_rfl) rfl) ?_
  intro fn
  generalize hrec : (Rng.Rec.mk fn _ _ _ _ _) = rc
  obtain ⟨W1, hW1⟩ : ∃ W1, W1 = (w4.alloc (.deferred (some []))).alloc (rc.at .ready none) := ⟨_, rfl⟩
  rw [← hW1]
  have hD := World.alloc_heap_new w4 (.deferred (some []))
  have hL := World.alloc_heap_new (w4.alloc (.deferred (some []))) (rc.at .ready none)
  have hD1 := blk_below hD (below_new _ (rc.at .ready none))
  have hbW : Below w4.heap.size w4 W1 := by rw [hW1]; exact below_then (below_new _ _) (below_new _ _)
  rw [World.size_alloc] at hL
  rw [← hW1] at hL hD1
  have hsW : W1.heap.size = w4.heap.size + 2 := by rw [hW1]; simp
  clear hW1 hD
  have hS4 := HS4.out
  have hS5 := HS5.out
  have hb4W : Below W4.heap.size W4 W1 := below_then H34.out hbW
  refine (parts_iter (l0 := w4.heap.size + 1) (Bx := W4.heap.size) (S := fun k => k = w4.heap.size + 1 ∨ k = w2.heap.size ∨ w4.heap.size + 2 ≤ k) ?_ (Between rc w2.heap.size w4.heap.size (w4.heap.size + 2)) ?_ ?_ n (by omega) W1 ?_ ?_).mono ?_
  · omega
  · intro pre W W' hb hg
    exact between_upd hb (Upd.of_grown (S := fun k => k = W4.heap.size) hg rfl) (by omega) (by omega) (by omega) (by omega) (by omega)
  · intro pre x W hpl hb
    obtain ⟨a1, a2, a3, a4, v, a5, a6⟩ := hb
    have ea := congrArg Rng.Rec.assign hrec
    have eb := congrArg Rng.Rec.body hrec
    have ep := congrArg Rng.Rec.params hrec
    have et := congrArg Rng.Rec.tmps hrec
    dsimp only at ea eb ep et
    refine ⟨rc.fn, _, _, _, run_yield (P := Tryd.prog) a2 (by rw [← ep]; rfl), Rng.round a2 ?_⟩
    rw [← ea, ← eb, ← ep, ← et]
    clear ea eb ep et hrec
    gi_wp2
    refine ⟨a2, ?_⟩
    have hu := putObj_upd W (w4.heap.size + 1) (rc.at .busy none)
    have hLb : (W.putObj (w4.heap.size + 1) (rc.at .busy none)).heap[w4.heap.size + 1]? = some (rc.at .busy none) := World.putObj_heap_same (Array.getElem?_eq_some_iff.1 a2).1
    obtain ⟨W2', hW2⟩ : ∃ W2', W2' = W.putObj (w4.heap.size + 1) (rc.at .busy none) := ⟨_, rfl⟩
    rw [← hW2] at hu hLb ⊢
    clear hW2
    have a6' := a6.upd hu (by omega)
    have a5' := hu.blk a5 (by omega)
    have a4' := hu.blk a4 (by omega)
    have a1' := hu.blk a1 (by omega)
    have cl : W2'.cell? ⟨w2.heap.size + 1, 0, none⟩ = some (.func (.func 33) #[] #[.pointer (some ⟨w2.heap.size, 0, none⟩)]) := cel a4' 0 rfl
    have hsW2 : w4.heap.size + 2 ≤ W2'.heap.size := Nat.le_trans a3 hu.size
    have HA1 := Aside.mk a1'
    have HA4 := Aside.mk a4'
    have HL := Aside.mk hLb
    have HU := Aside.mk hu
    have HLAY := Aside.mk (lay x w2.heap.size W2' v pre.reverse (by rw [List.length_reverse]; omega) a5' a6')
    clear a1 a2 a4 a5 a6 a1' a4' a5' a6' hLb hu hS4 hS5 hbW hsW hb4W hL hD1 hpl
    gi_wp2_with fail
    refine ⟨trivial, rfl, CallsIn.inRound _ (callsIn_wide.2 (HLAY.out.mono ?_))⟩
    rintro e w6 ⟨⟨v6, rfl⟩, hg6, v', ho6, hb6⟩
    have HG6 := Aside.mk hg6
    have HO6 := Aside.mk ho6
    have HB6 := Aside.mk hb6
    clear hg6 ho6 hb6 cl HLAY
    gi_wp2
    have hS4 := HS4.out
    have hS5 := HS5.out
    have hu7 : Upd (fun k => k = w2.heap.size) W2' w6 := Upd.of_grown HG6.out rfl
    have hu8 := putObj_upd w6 (w4.heap.size + 1) (rc.at .ready none)
    have hL7 := hu7.blk HL.out (by omega)
    refine ⟨hL7, ⟨hu8.blk (hu7.blk HA1.out (by omega)) (by omega), World.putObj_heap_same (Array.getElem?_eq_some_iff.1 hL7).1, ?_, hu8.blk (hu7.blk HA4.out (by omega)) (by omega), _, hu8.blk HO6.out (by omega), ?_⟩, ?_⟩
    · exact Nat.le_trans hsW2 (Nat.le_trans hu7.size hu8.size)
    · rw [List.reverse_append, List.reverse_singleton]
      exact (HB6.out.mono (fun b hb => Nat.le_trans hsW2 hb)).upd hu8 (by omega)
    · exact (HU.out.mono (fun k h => .inl h)).trans ((hu7.mono (fun k h => .inr (.inl h))).trans (hu8.mono (fun k h => .inl h)))
  · exact ⟨hD1, hL, by omega, blk_below HL4.out hb4W, _, blk_below HO4.out hb4W, .inl ⟨rfl, rfl⟩⟩
  · exact blk_below HB4'.out hbW
  · rintro e W5 ⟨⟨v5, rfl⟩, hJ5, hU5⟩
    refine ⟨⟨_, rfl⟩, .ready, none, by simp, hJ5.2.1, ?_⟩
    dsimp only
    have hu6 := putObj_upd W5 (w4.heap.size + 1) (rc.at .exhausted none)
    obtain ⟨W6, hW6⟩ : ∃ W6, W6 = W5.putObj (w4.heap.size + 1) (rc.at .exhausted none) := ⟨_, rfl⟩
    rw [← hW6] at hu6 ⊢
    clear hW6 hrec
    have HU6 := Aside.mk (show Upd (fun k => (k = w4.heap.size + 1 ∨ k = w2.heap.size ∨ w4.heap.size + 2 ≤ k) ∨ k = W4.heap.size) W1 W6 from hU5.trans (hu6.mono (fun k h => .inl (.inl h))))
    obtain ⟨a1, _, a3, a4, vo, a5, a6⟩ := hJ5
    obtain ⟨A, c, rfl⟩ := a6.shape
    rw [List.length_reverse] at a5
    have HD6 := Aside.mk (hu6.blk a1 (by omega))
    have hl6 := hu6.blk a4 (by omega)
    have ho6 := hu6.blk a5 (by omega)
    have hb6 := a6.upd hu6 (by omega)
    rw [List.length_reverse] at hb6
    have cl : W6.cell? ⟨w2.heap.size + 1, 0, none⟩ = some (.func (.func 33) #[] #[.pointer (some ⟨w2.heap.size, 0, none⟩)]) := cel hl6 0 rfl
    have co : W6.cell? ⟨w2.heap.size, 0, none⟩ = some (.slice A (partsOf 4 n).length c) := cel ho6 0 rfl
    have hux : ((UInt8.ofNat (128 + (partsOf 4 n).length)).toNat : Int) = 128 + ((partsOf 4 n).length : Int) := by rw [UInt8.toNat_ofNat']; omega
    have HLAY := Aside.mk (hux ▸ lay (UInt8.ofNat (128 + (partsOf 4 n).length)) w2.heap.size W6 _ (partsOf 4 n).reverse (by rw [List.length_reverse]; omega) ho6 hb6)
    have HO6 := Aside.mk ho6
    have HB6 := Aside.mk (show Below w.heap.size w W6 from by
      have h1 : Below w2.heap.size w2 W1 := below_then HB4.out hb4W
      exact below_then H2.out (Upd.to_below h1 HU6.out (by omega)))
    have hpi : ((partsOf 4 n).length : Int) ≤ 4 := by omega
    clear a1 a3 a4 a5 a6 hl6 ho6 hb6 hU5 hu6 hL hD1 hb4W hbW hux
    go_wp2_with fail
    refine HLAY.out.mono ?_
    rintro e W7 ⟨⟨v7, rfl⟩, hg7, vr, ho7, hb7⟩
    obtain ⟨A7, c7, rfl⟩ := hb7.shape
    have co7 : W7.cell? ⟨w2.heap.size, 0, none⟩ = some (.slice A7 (UInt8.ofNat (128 + (partsOf 4 n).length) :: (partsOf 4 n).reverse).length c7) := cel ho7 0 rfl
    have hcv := hb7.str
    obtain ⟨txt, htx⟩ : ∃ txt : ByteArray, txt = ⟨(UInt8.ofNat (128 + (partsOf 4 n).length) :: (partsOf 4 n).reverse).toArray⟩ := ⟨_, rfl⟩
    rw [← htx] at hcv
    have HTX := Aside.mk htx
    generalize (UInt8.ofNat (128 + (partsOf 4 n).length) :: (partsOf 4 n).reverse).length = ln at hcv co7 ho7
    have HD7 := Aside.mk (blk_grown HD6.out hg7 (by simp; omega))
    have HB7 := Aside.mk (below_grown HB6.out hg7 H2.out.size)
    clear hg7 ho7 hb7 HLAY cl co htx hS4 hS5 hsW
    go_wp2
    refine ⟨by simp, .inl ⟨_, _, rfl, run_takeDeferred HD7.out, ?_⟩⟩
    refine ⟨.tuple #[.string txt, .nilIface], by simp [results, Tryd.f25, go_sem], ?_⟩
    have hu8 := putObj_upd W7 w4.heap.size (.deferred none)
    have hle : w.heap.size ≤ w4.heap.size := by have := H2.out.size; have := HS4.out; have := HS5.out; omega
    refine ⟨by rw [HTX.out], ?_⟩
    exact Upd.to_below HB7.out hu8 (by rintro k rfl; exact hle)
end Go.Proofs.YtglmnglaliljdaaDoor.Size
