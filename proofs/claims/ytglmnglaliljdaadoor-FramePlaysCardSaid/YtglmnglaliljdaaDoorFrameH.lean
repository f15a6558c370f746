/- frame.(*Framer).Feed. Conditions: the shape of memory that each theorem names. -/
import Derived.Test.YtglmnglaliljdaaDoorFrameG
import Derived.Laws.AppendOwn
import Derived.Maps.AppendAt
import Derived.Lib.AppendStr
namespace Go.Proofs.YtglmnglaliljdaaDoor.Frame
open Go.RowKit Size
set_option linter.unusedVariables false
attribute [local go_sem] Oper.semAt_some
theorem own_base {w : World} {base : Nat} {e : TypeId} {size n : Nat} {v : Value} {xs : List Value} (h : w.ownsRow base e size v n xs) (k : Nat) (hk : v.ownBlock = some k) : base ≤ k ∧ k < w.heap.size := by
  rcases h.2 with ⟨rfl, _⟩ | ⟨g, cap, cur, rfl, hb, hh, _⟩
  · simp [Value.ownBlock] at hk
  · have : g = k := by simpa [Value.ownBlock] using hk
    exact ⟨by omega, by have := (Array.getElem?_eq_some_iff.1 hh).1; omega⟩
theorem own_lower {w : World} {base base' : Nat} {e : TypeId} {size n : Nat} {v : Value} {xs : List Value} (h : w.ownsRow base e size v n xs) (hb : base' ≤ base) : w.ownsRow base' e size v n xs := by
  obtain ⟨h1, h2⟩ := h
  refine ⟨h1, ?_⟩
  rcases h2 with h2 | ⟨g, cap, cur, e, hg, r⟩
  · exact .inl h2
  · exact .inr ⟨g, cap, cur, e, Nat.le_trans hb hg, r⟩
theorem own_upd {w w' : World} {base : Nat} {e : TypeId} {size n : Nat} {v : Value} {xs : List Value} (h : w.ownsRow base e size v n xs) {S : Nat → Prop} (hu : Upd S w w') (hs : ∀ k, base ≤ k → ¬ S k) : w'.ownsRow base e size v n xs := by
  obtain ⟨h1, h2⟩ := h
  refine ⟨h1, ?_⟩
  rcases h2 with h2 | ⟨g, cap, cur, rfl, hg, hh, r⟩
  · exact .inl h2
  · exact .inr ⟨g, cap, cur, rfl, hg, hu.blk hh (hs g hg), r⟩
/-- a list of texts as values -/
def strs (l : List (List UInt8)) : List Value := l.map fun x => .string ⟨x.toArray⟩
theorem strs_length (l : List (List UInt8)) : (strs l).length = l.length := by simp [strs]
/-- what stands between two rounds of Feed's loop -/
def Between (r : Rng.Rec) (Bo D base : Nat) (pre : List (List UInt8)) (W : World) : Prop :=
  W.heap[D]? = some (.deferred (some [])) ∧ W.heap[D + 1]? = some (r.at .ready none) ∧ base ≤ W.heap.size ∧
    ∃ v, W.heap[Bo]? = some (.cells #[v] 22 (0, 0)) ∧ W.ownsRow base 9 1 v pre.length (strs pre)
theorem between_upd {r : Rng.Rec} {Bo D base : Nat} {pre : List (List UInt8)} {W W' : World} (h : Between r Bo D base pre W) {S : Nat → Prop} (hu : Upd S W W') (h1 : ¬ S D) (h2 : ¬ S (D + 1)) (h3 : ¬ S Bo) (h4 : ∀ k, base ≤ k → ¬ S k) : Between r Bo D base pre W' := by
  obtain ⟨a1, a2, a3, v, a4, a5⟩ := h
  exact ⟨hu.blk a1 h1, hu.blk a2 h2, Nat.le_trans a3 hu.size, v, hu.blk a4 h3, own_upd a5 hu h4⟩
set_option maxRecDepth 100000 in
set_option maxHeartbeats 2000000 in
theorem feed_broken {w : World} {av : Nat → Prop} {f : Nat} {l : List UInt8} {a c : Int} {p : Nat → Addr} (h : FS w av f l a c p) (hG : Globs w p) (s : ByteArray) (hc : c ≠ 0) :
    Calls Tryd.prog 10 #[.pointer (some ⟨f, 0, none⟩), .string s] w fun e w' => e = .returned (.tuple #[.slice none 0 0, .int .i64 c]) ∧ Below w.heap.size w w' := by
  obtain ⟨v, ev, hb, hx, he⟩ := h
  have c2 : w.cell? ⟨f, 2, none⟩ = some ev := cel hb 2 rfl
  have HT := Aside.mk (he.told w hG)
  have q0 : (c != 0) = true := by simp [hc]
  clear hb hx he hc
  go_enter Tryd.func10, Tryd.ntmps10
  go_wp2_with fail
  refine HT.out.mono ?_
  rintro e w1 ⟨rfl, hb⟩
  have H1 := Aside.mk hb
  clear hb c2
  go_wp2
  go_ret2
  exact ⟨rfl, H1.out⟩
theorem RB.bound {w : World} {av : Nat → Prop} {v : Value} {l : List UInt8} (h : RB w av v l) : RB w (fun b => av b ∧ b < w.heap.size) v l := by
  obtain ⟨A, c, e, hc, hm, hx⟩ := h
  refine ⟨A, c, e, hc, hm, fun hl => ?_⟩
  obtain ⟨b, o, e2, hav, hcell⟩ := hx hl
  obtain ⟨u, r, rfl⟩ := List.exists_cons_of_ne_nil hl
  exact ⟨b, o, e2, ⟨hav, by have := World.block_lt_of_cell? w _ (hcell 0 u rfl); simpa using this⟩, hcell⟩
theorem FS.bound {w : World} {av : Nat → Prop} {f : Nat} {l : List UInt8} {a c : Int} {p : Nat → Addr} (h : FS w av f l a c p) : FS w (fun b => av b ∧ b < w.heap.size) f l a c p := by
  obtain ⟨v, ev, hb, hrb, he⟩ := h
  exact ⟨v, ev, hb, hrb.bound.mono (fun b hb => ⟨⟨hb.1.1, hb.2⟩, hb.1.2⟩), he⟩
theorem FS.mono {w : World} {av av' : Nat → Prop} {f : Nat} {l : List UInt8} {a c : Int} {p : Nat → Addr} (h : FS w av f l a c p) (hi : ∀ b, av b → av' b) : FS w av' f l a c p := by
  obtain ⟨v, ev, hb, hrb, he⟩ := h
  exact ⟨v, ev, hb, hrb.mono (fun b hb => ⟨hi b hb.1, hb.2⟩), he⟩
theorem bytes_rb (W : World) (av : Nat → Prop) (s : ByteArray) (hs : s.size ≤ maxLen) (hav : av W.heap.size) : RB (Lib.bytesWorld W 5 s) av (.slice (some ⟨W.heap.size, 0, none⟩) s.size (grownCap W s.size 0 5)) s.data.toList := by
  have hl : s.data.toList.length = s.size := by rw [Array.length_toList]; rfl
  refine ⟨some ⟨W.heap.size, 0, none⟩, grownCap W s.size 0 5, by rw [hl], by rw [hl]; exact grownCap_ge _ _ _ _, grownCap_le_maxLen _ _ _ _ hs, fun _ => ⟨W.heap.size, 0, rfl, hav, fun j u hu => ?_⟩⟩
  have hj : j < s.size := by rw [← hl]; exact (List.getElem?_eq_some_iff.1 hu).1
  rw [Nat.zero_add, Lib.bytesWorld_cell W 5 s j hj]
  rw [List.getD_eq_getElem?_getD, hu]
  rfl
theorem bytes_below (W : World) (s : ByteArray) : Below W.heap.size W (Lib.bytesWorld W 5 s) :=
  ⟨rfl, rfl, rfl, by rw [Lib.bytesWorld_size]; omega, fun i hi => Lib.bytesWorld_at_old W 5 s i hi⟩
set_option maxRecDepth 100000 in
set_option maxHeartbeats 4000000 in
theorem feed_goes {w : World} {av : Nat → Prop} {f : Nat} {l : List UInt8} {a : Int} {p : Nat → Addr} (h : FS w av f l a 0 p) (hG : Globs w p) (s : ByteArray) (hs : l.length + s.size ≤ 100000000) (ha : 0 ≤ a) (ha2 : a ≤ 100000000) (hgf : GFree p f) (hn : ∀ k, w.heap.size ≤ k → av k) :
    Calls Tryd.prog 10 #[.pointer (some ⟨f, 0, none⟩), .string s] w fun e w' => ∃ v, e = .returned (.tuple #[v, .int .i64 (codeOf (run (l.length + s.size + 1) (l ++ s.data.toList)).2.2.2)]) ∧
      w'.ownsRow w.heap.size 9 1 v (run (l.length + s.size + 1) (l ++ s.data.toList)).1.length (strs (run (l.length + s.size + 1) (l ++ s.data.toList)).1) ∧ w.grownBy w' (some f) ∧
      FS w' av f (if codeOf (run (l.length + s.size + 1) (l ++ s.data.toList)).2.2.2 ≠ 0 then [] else (run (l.length + s.size + 1) (l ++ s.data.toList)).2.1) (a + (run (l.length + s.size + 1) (l ++ s.data.toList)).2.2.1) (codeOf (run (l.length + s.size + 1) (l ++ s.data.toList)).2.2.2) p := by
  have hlt : f < w.heap.size := by obtain ⟨v, ev, hb, _⟩ := h; exact (Array.getElem?_eq_some_iff.1 hb).1
  have c2 : ∃ ev, w.cell? ⟨f, 2, none⟩ = some ev ∧ ErrV p 0 ev := by obtain ⟨v, ev, hb, _, he⟩ := h; exact ⟨ev, cel hb 2 rfl, he⟩
  obtain ⟨ev, c2, he⟩ := c2
  have HT := Aside.mk (he.told w hG)
  have HF := Aside.mk h
  have HG := Aside.mk hG
  have kb := fun W => Lib.run_convert_string_bytes (P := Tryd.prog) W 9 45 5 s Tryd.underlying9 Tryd.underlying45 Tryd.underlying5
  have HS := Aside.mk hs
  have HG0 := Aside.mk hG
  clear h hG he hs
  refine Rng.calls_of_marks (n := 1) Tryd.func10 rfl ?_
  simp only [Tryd.ntmps10, List.size_toArray, List.length_cons, List.length_nil, Nat.reduceAdd, Nat.reduceSub, Array.replicate_succ, Array.replicate_zero, List.push_toArray, List.append_toArray, List.nil_append, List.cons_append]
  go_wp2_with fail
  refine HT.out.mono ?_
  rintro e w1 ⟨rfl, hb⟩
  have H1 := Aside.mk hb
  have HF1 := Aside.mk (HF.out.below hb)
  have HG1 := Aside.mk (HG.out.below hb)
  have hs1 : w.heap.size ≤ w1.heap.size := hb.size
  clear hb c2 HF HG HT
  go_wp2_with fail
  have hb2 : Below w1.heap.size w1 (Lib.bytesWorld (w1.alloc (.cells #[.slice none 0 0] 22)) 5 s) := below_then (below_new _ _) (bytes_below _ _)
  have hbo : (Lib.bytesWorld (w1.alloc (.cells #[.slice none 0 0] 22)) 5 s).heap[w1.heap.size]? = some (.cells #[.slice none 0 0] 22 (0, 0)) := blk_below (World.alloc_heap_new _ _) (bytes_below _ _)
  have hrb := bytes_rb (w1.alloc (.cells #[.slice none 0 0] 22)) (fun _ => True) s (by have := HS.out; unfold maxLen; omega) trivial
  have hsz : w1.heap.size + 1 < (Lib.bytesWorld (w1.alloc (.cells #[.slice none 0 0] 22)) 5 s).heap.size := by rw [Lib.bytesWorld_size]; simp
  rw [World.size_alloc] at hrb
  generalize Lib.bytesWorld (w1.alloc (.cells #[.slice none 0 0] 22)) 5 s = W2 at hb2 hbo hrb hsz ⊢
  generalize grownCap (w1.alloc (.cells #[.slice none 0 0] 22)) s.size 0 5 = cpb at hrb ⊢
  have hsl : s.data.toList.length = s.size := by rw [Array.length_toList]; rfl
  have HF2 := Aside.mk ((HF1.out.bound.mono (av' := fun b => av b ∧ b ≠ w1.heap.size) (fun b hb => ⟨hb.1, by omega⟩)).below hb2)
  refine (add HF2.out hrb (fun k hk => ⟨hn k (by omega), by omega⟩) (by rw [hsl]; exact HS.out)).mono ?_
  rintro e w3 ⟨⟨v3, rfl⟩, hg3, hF3⟩
  have HG3 := Aside.mk ((HG1.out.below hb2).grown hgf hg3)
  have HBo := Aside.mk (blk_grown hbo hg3 (by simp; omega))
  have H3 := Aside.mk (show w.grownBy w3 (some f) from grown_trans (grown_of_below (below_then H1.out hb2) _) hg3)
  have HF3 := Aside.mk hF3.bound
  have hs3 : w1.heap.size + 1 < w3.heap.size := by have := hg3.size; omega
  clear hg3 hF3 hbo hrb hb2 HF2 HF1 HG1 hsz kb
  go_wp2_with fail
  refine (pieces_maker f w3).mono ?_
  rintro e w4 ⟨rfl, h4⟩
  have HB4 := Aside.mk (show w4.cell? ⟨w3.heap.size, 0, none⟩ = some (.pointer (some ⟨f, 0, none⟩)) by rw [← h4]; exact cell_new _ _ _ _ 0 rfl)
  have H34 := Aside.mk (show Below w3.heap.size w3 w4 by rw [← h4]; exact below_new _ _)
  have hs4 : w4.heap.size = w3.heap.size + 1 := by rw [← h4]; simp
  have HS4 := Aside.mk hs4
  clear h4 hs4
  go_wp2_with fail
  refine Rng.wp_range (n := 1) (gf := 29) (lb := #[.pointer (some ⟨w3.heap.size, 0, none⟩)]) rfl (enters_of Tryd.func29 (by kernel_rfl) rfl) ?_
  intro fn
  generalize hrec : (Rng.Rec.mk fn _ _ _ _ _) = rc
  obtain ⟨W1, hW1⟩ : ∃ W1, W1 = (w4.alloc (.deferred (some []))).alloc (rc.at .ready none) := ⟨_, rfl⟩
  rw [← hW1]
  have hD := World.alloc_heap_new w4 (.deferred (some []))
  have hL := World.alloc_heap_new (w4.alloc (.deferred (some []))) (rc.at .ready none)
  have hD1 := blk_below hD (below_new _ (rc.at .ready none))
  have hbW : Below w4.heap.size w4 W1 := by rw [hW1]; exact below_then (below_new _ _) (below_new _ _)
  rw [World.size_alloc] at hL
  rw [← hW1] at hL hD1
  have hsW : W1.heap.size = w4.heap.size + 2 := by rw [hW1]; simp
  clear hW1 hD
  have hS4 := HS4.out
  have hb34 := H34.out
  have hb3W : Below w3.heap.size w3 W1 := below_then hb34 hbW
  refine (iter (av := fun b => av b ∧ b < w3.heap.size) (n := l.length + s.size + 1) (l0 := w4.heap.size + 1) (f := f) (Bx := w3.heap.size) (S := fun k => k = w4.heap.size + 1 ∨ k = w1.heap.size ∨ w4.heap.size + 2 ≤ k) (p := p) ?_ ?_ ?_ hgf ?_ (Between rc w1.heap.size w4.heap.size (w4.heap.size + 2)) ?_ ?_ (l ++ s.data.toList) a ?_ ha ?_ W1 ?_ ?_ ?_ ?_).mono ?_
  · omega
  · omega
  · omega
  · exact Globs.freeS HG0.out (by rintro k (h | h | h) <;> omega)
  · intro pre W W' hb hg
    exact between_upd hb (Upd.of_grown (S := fun k => k = f) hg rfl) (by omega) (by omega) (by omega) (by omega)
  · intro pre x W hpl hb
    obtain ⟨a1, a2, a3, v, a4, a5⟩ := hb
    have ea := congrArg Rng.Rec.assign hrec
    have eb := congrArg Rng.Rec.body hrec
    have ep := congrArg Rng.Rec.params hrec
    have et := congrArg Rng.Rec.tmps hrec
    dsimp only at ea eb ep et
    refine ⟨rc.fn, _, _, _, run_yield (P := Tryd.prog) a2 (by rw [← ep]; rfl), Rng.round a2 ?_⟩
    rw [← ea, ← eb, ← ep, ← et]
    clear ea eb ep et hrec
    gi_wp2
    refine ⟨a2, ?_⟩
    have hu := putObj_upd W (w4.heap.size + 1) (rc.at .busy none)
    have hLb : (W.putObj (w4.heap.size + 1) (rc.at .busy none)).heap[w4.heap.size + 1]? = some (rc.at .busy none) := World.putObj_heap_same (Array.getElem?_eq_some_iff.1 a2).1
    obtain ⟨W2', hW2⟩ : ∃ W2', W2' = W.putObj (w4.heap.size + 1) (rc.at .busy none) := ⟨_, rfl⟩
    rw [← hW2] at hu hLb ⊢
    clear hW2
    have a5' := own_upd a5 hu (by omega)
    have a4' := hu.blk a4 (by omega)
    have a1' := hu.blk a1 (by omega)
    have cv : W2'.cell? ⟨w1.heap.size, 0, none⟩ = some v := cel a4' 0 rfl
    have hsW2 : w4.heap.size + 2 ≤ W2'.heap.size := Nat.le_trans a3 hu.size
    have hlenp : pre.length ≤ 1000000000 := by have := HS.out; omega
    have hS3 := hs3
    clear hS4 hsW hb34 hb3W hbW hL hD1 hs3 hpl
    have HA1 := Aside.mk a1'
    have HA4 := Aside.mk a4'
    have HL := Aside.mk hLb
    have HU := Aside.mk hu
    clear a1 a2 a4 a5 a1' a4' hLb hu
    obtain ⟨i0, hi, hz⟩ := Option.map_eq_some_iff.1 (show (Tryd.prog.info? 9).map (fun i => (i.zero, i.size, i.bytes)) = some (some (.string ⟨#[]⟩), 1, 16) by kernel_rfl)
    simp only [Prod.mk.injEq] at hz
    obtain ⟨hz0, hz1, hz2⟩ := hz
    have HO := Aside.mk (a5'.alloc (.cells #[.string ⟨x.toArray⟩] 9))
    gi_wp2_with (gi_at_builtin; refine wpListIn_append_own _ rfl _ _ 22 rfl (w4.heap.size + 2) 9 i0 (.string ⟨#[]⟩) 1 16 Tryd.underlying22 hi hz0 hz1 hz2 rfl (by decide) _ _ _ rfl HO.out ⟨W2'.heap.size, 0, none⟩ 1 1 [.string ⟨x.toArray⟩] rfl rfl (cell_one_new _ _ _) (by simp [Value.oneCell']) ?_ ?_ ?_ ?_)
    · unfold maxLen; omega
    · omega
    · simp; omega
    intro v' w6 hown' hgrow _
    obtain ⟨g', cap', rfl⟩ := ownsRow_succ hown'
    have hu6 : Upd (fun k => w4.heap.size + 2 ≤ k) W2' w6 := by
      have h1 : Upd (fun k => w4.heap.size + 2 ≤ k) W2' (W2'.alloc (.cells #[.string ⟨x.toArray⟩] 9)) := Upd.of_below (below_new _ _)
      exact h1.trans ⟨hgrow.os, hgrow.tape, hgrow.output, hgrow.size, fun i hi hn => hgrow.block i hi (fun e => hn (own_base HO.out i e.symm).1)⟩
    have hb6 := hu6.blk HA4.out (by have := HS4.out; omega)
    have cv6 : w6.cell? ⟨w1.heap.size, 0, none⟩ = some v := cel hb6 0 rfl
    have fv6 := frz hb6 0
    have HB6 := Aside.mk hb6
    have HU6 := Aside.mk hu6
    have HW6 := Aside.mk hown'
    clear hb6 hu6 hown' hgrow cv HO hi
    gi_wp2
    have hS4 := HS4.out
    have hu7 : Upd (fun k => k = w1.heap.size) w6 (w6.setCell ⟨w1.heap.size, 0, none⟩ (.slice (some ⟨g', 0, none⟩) (pre.length + 1) cap')) := Upd.of_grown (set_grown _ _ _ _) rfl
    have hu8 := putObj_upd (w6.setCell ⟨w1.heap.size, 0, none⟩ (.slice (some ⟨g', 0, none⟩) (pre.length + 1) cap')) (w4.heap.size + 1) (rc.at .ready none)
    have hL7 := hu7.blk (HU6.out.blk HL.out (by omega)) (by omega)
    refine ⟨hL7, ⟨hu8.blk (hu7.blk (HU6.out.blk HA1.out (by omega)) (by omega)) (by omega), World.putObj_heap_same (Array.getElem?_eq_some_iff.1 hL7).1, ?_, _, hu8.blk (set_blk HB6.out 0 _) (by omega), ?_⟩, ?_⟩
    · exact Nat.le_trans hsW2 (Nat.le_trans HU6.out.size (Nat.le_trans hu7.size hu8.size))
    · have h9 := own_upd (own_upd HW6.out hu7 (by omega)) hu8 (by omega)
      rw [List.length_append, List.length_singleton]
      simpa [strs] using h9
    · exact (HU.out.mono (fun k h => .inl h)).trans ((HU6.out.mono (fun k h => .inr (.inr h))).trans ((hu7.mono (fun k h => .inr (.inl h))).trans (hu8.mono (fun k h => .inl h))))
  · rw [List.length_append, hsl]; omega
  · have := HS.out; rw [List.length_append, hsl]; push_cast; omega
  · exact ⟨hD1, hL, by omega, _, blk_below HBo.out hb3W, by simp [strs], .inl ⟨rfl, rfl⟩⟩
  · exact (HF3.out.below hb3W).mono (fun b hb => ⟨⟨hb.1.1, hb.2⟩, by omega⟩)
  · exact cell_below HB4.out hbW
  · exact HG3.out.below hb3W
  · rintro e W5 ⟨⟨v5, rfl⟩, hJ5, hF5, hU5⟩
    refine ⟨⟨_, rfl⟩, .ready, none, by simp, hJ5.2.1, ?_⟩
    dsimp only
    have hu6 := putObj_upd W5 (w4.heap.size + 1) (rc.at .exhausted none)
    obtain ⟨W6, hW6⟩ : ∃ W6, W6 = W5.putObj (w4.heap.size + 1) (rc.at .exhausted none) := ⟨_, rfl⟩
    rw [← hW6] at hu6 ⊢
    clear hW6 hrec
    have HU6 := Aside.mk (show Upd (fun k => (k = w4.heap.size + 1 ∨ k = w1.heap.size ∨ w4.heap.size + 2 ≤ k) ∨ k = f) W1 W6 from hU5.trans (hu6.mono (fun k h => .inl (.inl h))))
    have hF6 := hF5.upd hu6 (by omega) (fun b hb => by omega)
    have HG6 := Aside.mk (Globs.upd (Globs.upd (HG3.out.below hb3W) (S := fun k => (k = w4.heap.size + 1 ∨ k = w1.heap.size ∨ w4.heap.size + 2 ≤ k) ∨ k = f) (by
      have h1 := Globs.freeS HG0.out (S := fun k => k = w4.heap.size + 1 ∨ k = w1.heap.size ∨ w4.heap.size + 2 ≤ k) (by rintro k (h | h | h) <;> omega)
      exact ⟨fun n hn => ⟨fun e => e.elim (h1.1 n hn).1 (hgf.1 n hn).1, fun e => e.elim (h1.1 n hn).2 (hgf.1 n hn).2⟩, fun e => e.elim h1.2 hgf.2⟩) hU5) (Globs.freeS HG0.out (S := fun k => k = w4.heap.size + 1) (by rintro k h; omega)) hu6)
    obtain ⟨a1, _, a3, vo, a4, a5⟩ := hJ5
    have HD6 := Aside.mk (hu6.blk a1 (by omega))
    have HO6 := Aside.mk (own_upd a5 hu6 (by omega))
    have hbo := hu6.blk a4 (by omega)
    have co : W6.cell? ⟨w1.heap.size, 0, none⟩ = some vo := cel hbo 0 rfl
    obtain ⟨v6, ev6, hb6, hrb6, he6⟩ := hF6
    have c6 : W6.cell? ⟨f, 2, none⟩ = some ev6 := cel hb6 2 rfl
    have HT6 := Aside.mk (he6.told W6 HG6.out)
    have HB6 := Aside.mk hb6
    have HR6 := Aside.mk hrb6
    have HE6 := Aside.mk he6
    have HBO := Aside.mk hbo
    have hrb6' := hrb6
    have hb3W' := hb3W
    clear hb6 hrb6 he6 hbo a1 a3 a4 a5 hF5 hU5 hu6 hL hD1 hbW hsW hb34 hb3W hS4
    go_wp2_with fail
    refine HT6.out.mono ?_
    rintro e W7 ⟨rfl, hb7⟩
    have co7 := cell_below co hb7
    have HB7 := Aside.mk (blk_below HB6.out hb7)
    have f7 := frz HB7.out 0
    have c7 : W7.cell? ⟨f, 0, none⟩ = some v6 := cel HB7.out 0 rfl
    have HD7 := Aside.mk (blk_below HD6.out hb7)
    have HBO7 := Aside.mk (blk_below HBO.out hb7)
    have HO7 := Aside.mk (own_upd HO6.out (Upd.of_below (S := fun _ => False) hb7) (fun _ _ h => h))
    have HR7 := Aside.mk (hrb6'.below hb7)
    have HW7 := Aside.mk (show w.grownBy W7 (some f) from grown_below (grown_upd (grown_below H3.out hb3W') HU6.out (by have := HS4.out; omega)) hb7)
    clear hb7 co c6
    by_cases hc : codeOf (run (l.length + s.size + 1) (l ++ s.data.toList)).2.2.2 = 0
    · have q0 : (codeOf (run (l.length + s.size + 1) (l ++ s.data.toList)).2.2.2 != 0) = false := by simp [hc]
      have HC := Aside.mk hc
      clear hc
      go_wp2
      all_goals (try (exfalso; have h9 := HC.out; contradiction))
      all_goals
        refine ⟨by simp, .inl ⟨_, _, rfl, run_takeDeferred HD7.out, ?_⟩⟩
        have hu8 := putObj_upd W7 w4.heap.size (.deferred none)
        have hS4 := HS4.out
        refine ⟨.tuple #[vo, .int .i64 (codeOf (run (l.length + s.size + 1) (l ++ s.data.toList)).2.2.2)], by simp [results, Tryd.f10, go_sem], vo, rfl, ?_, ?_, ?_⟩
        · obtain ⟨o1, o2⟩ := own_upd HO7.out hu8 (by omega)
          exact own_lower ⟨o1, o2⟩ (by omega)
        · exact grown_upd HW7.out hu8 (by rintro k rfl; omega)
        · have hf8 : FS W7 (fun b => av b ∧ b ≠ w4.heap.size) f _ _ _ p := ⟨v6, ev6, HB7.out, HR7.out.mono (fun b hb => ?_), HE6.out⟩
          · exact (hf8.upd hu8 (by omega) (fun b hb => hb.2)).mono (fun b hb => hb.1)
          · exact ⟨⟨hb.1.1.1, by have := hb.1.1.2; omega⟩, hb.2⟩
    · have q0 : (codeOf (run (l.length + s.size + 1) (l ++ s.data.toList)).2.2.2 != 0) = true := by simp [hc]
      have HC := Aside.mk hc
      clear hc
      go_wp2
      all_goals (try (exfalso; have h9 := HC.out; contradiction))
      all_goals
        refine ⟨by simp, .inl ⟨_, _, rfl, run_takeDeferred (blk_grown HD7.out (set_grown W7 f 0 (.slice none 0 0)) (by have := HS4.out; simp; omega)), ?_⟩⟩
        have hu9 : Upd (fun k => k = f ∨ k = w4.heap.size) W7 ((W7.setCell ⟨f, 0, none⟩ (.slice none 0 0)).putObj w4.heap.size (.deferred none)) := (Upd.of_grown (set_grown W7 f 0 (.slice none 0 0)) (.inl rfl)).trans ((putObj_upd _ _ _).mono (fun k h => .inr h))
        have hS4 := HS4.out
        have hb8 := (putObj_upd (W7.setCell ⟨f, 0, none⟩ (.slice none 0 0)) w4.heap.size (.deferred none)).blk (set_blk HB7.out 0 (.slice none 0 0)) (by omega)
        refine ⟨.tuple #[vo, .int .i64 (codeOf (run (l.length + s.size + 1) (l ++ s.data.toList)).2.2.2)], by simp [results, Tryd.f10, go_sem], vo, rfl, ?_, ?_, ?_⟩
        · exact own_lower (own_upd HO7.out hu9 (by omega)) (by omega)
        · exact grown_upd HW7.out hu9 (by rintro k (rfl | rfl) <;> omega)
        · exact ⟨_, ev6, hb8, ⟨none, 0, rfl, by simp, by simp, fun h => absurd rfl h⟩, HE6.out⟩
end Go.Proofs.YtglmnglaliljdaaDoor.Frame
