/- Several texts, one behind the other. utf.Right: is a text right? (its walk over signs). Conditions: the decoder's tables are laid; at most 10^9 bytes. utf.Right: a text's check (a loop over signs without a body), and what it answers. Conditions: the decoder's tables are laid; at most 10^9 bytes. esc's reader: read. Conditions: the shape of memory that each theorem names; at most 10^6 bytes. plain: texts of ASCII are right; two digits are a byte. filt, plain: a value as it is printed in a filter, and read again. No program. plain: texts cut at a sign; the bytes of a type; all or none. filt, plain: filters, which are right, their texts, and filters of texts; what is printed, read, is that. No program. -/
import Derived.Test.YtajpgigeploodaaGreatDoorM14
import Derived.Test.YtajpgigeploodaaGreatDoorM08
import Derived.Lib.TrimU
import Derived.Lib.OthersKept
import Derived.Lib.RuneCountTail
import Derived.Deep.LoopGhost
import Derived.Test.YtajpgigeploodaaGreatDoorM13
import Derived.Test.YtajpgigeploodaaGreatDoorM21
import Derived.Test.YtajpgigeploodaaGreatDoorM20
import Derived.Lib.IndexMore
/- utf.Right: is a text right? (its walk over signs). Conditions: the decoder's tables are laid; at most 10^9 bytes. -/
namespace Go.Proofs.YtajpgigeploodaaGreatDoor.Utf
open Go.RowKit Go.Lib
set_option linter.unusedVariables false
/-- no sign from a place on is wrong -/
def utfR (s : ByteArray) : Nat → Nat → Bool
  | 0, _ => true
  | f + 1, pos => if pos < s.size then (if (Utf8.decode s pos).1 == 65533 && (Utf8.decode s pos).2 == 1 then false else utfR s f (pos + (Utf8.decode s pos).2)) else true
def utfB (s : ByteArray) : Bool := utfR s s.size 0
theorem decode_tail (s : ByteArray) (pos : Nat) (h : pos < s.size) : Lib.decodeGo (s.extract pos s.size) = Utf8.decode s pos := by
  unfold Lib.decodeGo
  rw [if_neg (by rw [Lib.tail_size]; omega), Lib.tail_decode, Nat.add_zero]
attribute [local go_sem] Oper.semAt_some
/-- what the walk over signs leaves: J holds, or J and the error's cell set -/
def Walked (J : World → Prop) (E : Addr) (s : ByteArray) (W : World) : Prop :=
  (utfB s = true ∧ J W) ∨ (utfB s = false ∧ ∃ (n : Int) (W1 : World), J W1 ∧ W = W1.setCell E (.iface 192 (.agg #[.int .i64 n])))
set_option maxHeartbeats 4000000 in
theorem signs_iter {l0 Tx Ex K : Nat} {E : Addr} {s : ByteArray} (hs : s.size ≤ 1000000000) (J : World → Prop)
    (hJt : ∀ W, J W → W.cell? ⟨Tx, 0, none⟩ = some (.string s)) (hJe : ∀ W, J W → W.cell? ⟨Ex, 0, none⟩ = some (.pointer (some E))) (hJE : ∀ W, J W → ∃ v, W.cell? E = some v) (hJf : ∀ W, J W → W.frozen? E = false)
    (hJu : ∀ W, J W → Lib.Utf8Tabs 3 4 W) (hJb : ∀ W W', J W → Below K W W' → J W') (hJs : ∀ W, J W → K ≤ W.heap.size)
    (hY : ∀ (k r : Int) W, J W → ∃ fn tmps assign body, (Instr.yield l0 #[.int .i64 k, .int .i32 r]).run Tryz.prog W = .ok (.round l0 fn tmps assign body) W ∧ RoundIn Fence.wide 0 Tryz.prog l0 fn tmps assign body W (fun e W' => e = .returned (.bool true) ∧ J W' ∧ ∀ j, K ≤ j → W'.heap[j]? = W.heap[j]?))
    (W : World) (h0 : J W) (hK : W.heap.size = K) :
    Calls Tryz.prog 148 #[.func (.yield l0) #[] #[], .pointer (some ⟨Tx, 0, none⟩), .pointer (some ⟨Ex, 0, none⟩)] W fun e W' => (∃ v, e = .returned v) ∧ Walked J E s W' := by
  have c0 := hJt W h0
  subst hK
  go_enter Tryz.func148, Tryz.ntmps148
  go_wp2
  go_step3
  go_wp2
  go_step3
  go_wp2
  go_loopg [] s.size (fun gk wr => Aside (∃ pos : Nat, wr.heap[W.heap.size]? = some (.stringIter s pos) ∧ J wr ∧ s.size ≤ pos + gk ∧ utfR s gk pos = utfB s))
  case atStart => exact ⟨⟨0, World.iter_heap W s 0, hJb _ _ h0 (below_new _ _), by omega, rfl⟩⟩
  case round =>
    obtain ⟨pos, hit, hj, hgk, hu⟩ := hrel.out
    clear hrel c0
    have HU := Aside.mk hu
    have HJ := Aside.mk hj
    clear hu hj
    by_cases hp : pos < s.size
    · obtain ⟨m, rfl⟩ : ∃ m, gk = m + 1 := ⟨gk - 1, by omega⟩
      have hnx : ∀ ty, (Instr.next (.pointer (some ⟨W.heap.size, 0, none⟩)) true ty).run Tryz.prog wr = _ := fun ty => Lib.run_next_any_at wr W.heap.size s pos ty hit hp
      have HW1 := Aside.mk (Lib.width_pos s pos)
      have HD := Aside.mk (decode_tail s pos hp)
      have HST := Aside.mk (show utfB s = (if (Utf8.decode s pos).1 == 65533 && (Utf8.decode s pos).2 == 1 then false else utfR s m (pos + (Utf8.decode s pos).2)) by rw [← HU.out]; simp [utfR, hp])
      generalize Utf8.decode s pos = d at hnx HW1 HD HST
      obtain ⟨r, wd⟩ := d
      obtain ⟨w2, hw2⟩ : ∃ w2, wr.iterAt W.heap.size s (pos + wd) = w2 := ⟨_, rfl⟩
      have hit2 : w2.heap[W.heap.size]? = some (.stringIter s (pos + wd)) := by rw [← hw2]; exact Lib.iterAt_heap wr W.heap.size s pos _ hit
      have hj2 : J w2 := by rw [← hw2]; exact hJb _ _ HJ.out (Lib.below_iterAt (Below.refl _ _) (k := W.heap.size) (Nat.le_refl _) s _)
      have hpi : (0 : Int) ≤ (pos : Int) := by omega
      have hpj : (pos : Int) ≤ (s.size : Int) := by omega
      rw [hw2] at hnx
      clear hw2 hit
      have HI2 := Aside.mk hit2
      have HJ2 := Aside.mk hj2
      have c0 := hJt _ hj2
      have HC := Aside.mk (show Calls Tryz.prog 110 #[.string (s.extract pos s.size)] w2 fun e w' => e = .returned (.tuple #[.int .i32 r, .int .i64 wd]) ∧ Below w2.heap.size w2 w' by
        have := Shelf.utf8_DecodeRuneInString (s.extract pos s.size) w2 (hJu _ hj2)
        rwa [HD.out] at this)
      clear hit2 hj2
      refine (wpIn_wide (n := 1)).1 ?_
      gi_wp2_with fail
      refine ⟨trivial, callsIn_wide.2 (HC.out.mono ?_)⟩
      rintro e w3 ⟨rfl, hb⟩
      have hw2 : W.heap.size < w2.heap.size := (Array.getElem?_eq_some_iff.1 HI2.out).1
      have HI3 := Aside.mk (hb.block W.heap.size hw2 ▸ HI2.out)
      have HJ3 := Aside.mk (hJb _ _ HJ2.out (hb.mono (Nat.le_of_lt hw2)))
      clear hb c0
      by_cases hbad : r = 65533 ∧ wd = 1
      · obtain ⟨rfl, rfl⟩ := hbad
        have HF := Aside.mk (show utfB s = false by rw [HST.out]; rfl)
        have c1 := hJe _ HJ3.out
        obtain ⟨v0, c2⟩ := hJE _ HJ3.out
        have c3 := hJf _ HJ3.out
        clear hnx
        gi_wp2
        rw [Exit.noGoto_normal]
        go_end0
        exact ⟨⟨_, rfl⟩, .inr ⟨HF.out, _, w3, HJ3.out, rfl⟩⟩
      · have HT := Aside.mk (show utfB s = utfR s m (pos + wd) by
          rw [HST.out, if_neg]
          simp only [Bool.and_eq_true, beq_iff_eq]
          exact hbad)
        obtain ⟨fn, tm, asg, bo, hy, hR⟩ := hY pos r w3 HJ3.out
        have HRR := Aside.mk hR
        clear hR hnx
        have hcases : ((r : Int) == 65533) = false ∨ (((r : Int) == 65533) = true ∧ ((wd : Int) == 1) = false) := by
          by_cases h1 : r = 65533
          · right
            have : wd ≠ 1 := fun e => hbad ⟨h1, e⟩
            constructor
            · simp [h1]
            · rw [beq_eq_false_iff_ne]; omega
          · left; rw [beq_eq_false_iff_ne]; omega
        clear hbad
        rcases hcases with h1 | ⟨h1, h2⟩
        all_goals
          gi_wp2_with fail
          refine HRR.out.mono ?_
          rintro e w4 ⟨rfl, hj4, hk4⟩
          have HJ4 := Aside.mk hj4
          have HI4 := Aside.mk ((hk4 _ (Nat.le_refl _)).trans HI3.out)
          clear hj4 hk4 hy
          gi_wp2
          go_roundg m
        all_goals first
          | (case measure => omega)
          | (case rel => exact ⟨pos + wd, HI4.out, HJ4.out, by have := HW1.out; omega, HT.out.symm⟩)
          | skip
    · have HE := Aside.mk (show utfB s = true by
        rw [← HU.out]
        cases gk with
        | zero => rfl
        | succ f => simp [utfR, hp])
      have hnx : ∀ ty, (Instr.next (.pointer (some ⟨W.heap.size, 0, none⟩)) true ty).run Tryz.prog wr = _ := fun ty => Lib.run_next_end_at wr W.heap.size s pos ty hit hp
      clear hp
      go_wp2
      rw [Exit.noGoto_normal]
      go_end0
      exact ⟨⟨_, rfl⟩, .inl ⟨HE.out, HJ.out⟩⟩
end Go.Proofs.YtajpgigeploodaaGreatDoor.Utf
/- utf.Right: a text's check (a loop over signs without a body), and what it answers. Conditions: the decoder's tables are laid; at most 10^9 bytes. -/
namespace Go.Proofs.YtajpgigeploodaaGreatDoor.Utf
open Go.RowKit Go.Lib
set_option linter.unusedVariables false
attribute [local go_sem] Oper.semAt_some
theorem signs_maker (s : ByteArray) (E : Addr) (w : World) :
    Calls Tryz.prog 144 #[.agg #[.string s], .pointer (some E)] w fun e w' => e = .returned (.func (.func 148) #[] #[.pointer (some ⟨w.heap.size, 0, none⟩), .pointer (some ⟨w.heap.size + 1, 0, none⟩)]) ∧ (w.alloc (.cells #[.string s] 181)).alloc (.cells #[.pointer (some E)] 188) = w' := by
  go_enter Tryz.func144, Tryz.ntmps144
  go_wp2
  go_ret
  exact ⟨by simp, rfl⟩
/-- what holds between two rounds -/
structure Jt (rc : Rng.Rec) (D Tx Ex Eb : Nat) (s : ByteArray) (w W : World) : Prop where
  d : W.heap[D]? = some (.deferred (some []))
  l : W.heap[D + 1]? = some (rc.at .ready none)
  t : W.heap[Tx]? = some (.cells #[.string s] 181 (0, 0))
  x : W.heap[Ex]? = some (.cells #[.pointer (some ⟨Eb, 0, none⟩)] 188 (0, 0))
  e : W.heap[Eb]? = some (.cells #[.nilIface] 51 (0, 0))
  b : Below w.heap.size w W
  z : D + 2 ≤ W.heap.size
theorem Jt.step {rc : Rng.Rec} {D Tx Ex Eb : Nat} {s : ByteArray} {w W W' : World} (h : Jt rc D Tx Ex Eb s w W) (ht : Tx < D) (hx : Ex < D) (he : Eb < D) (hw : w.heap.size ≤ D) (hb : Below (D + 2) W W') : Jt rc D Tx Ex Eb s w W' where
  d := (hb.block D (by omega)).trans h.d
  l := (hb.block (D + 1) (by omega)).trans h.l
  t := (hb.block Tx (by omega)).trans h.t
  x := (hb.block Ex (by omega)).trans h.x
  e := (hb.block Eb (by omega)).trans h.e
  b := h.b.trans (hb.mono (by omega))
  z := Nat.le_trans h.z hb.size
/-- what a check answers -/
def ChkRes (w : World) (s : ByteArray) (e : Ending) (w' : World) : Prop :=
  ((utfB s = true ∧ e = .returned .nilIface) ∨ (utfB s = false ∧ ∃ n : Int, e = .returned (.iface 192 (.agg #[.int .i64 n])))) ∧ Below w.heap.size w w'
set_option maxRecDepth 100000 in
set_option maxHeartbeats 4000000 in
theorem check_calls (s : ByteArray) (hs : s.size ≤ 1000000000) (w : World) (hu : Lib.Utf8Tabs 3 4 w) :
    Calls Tryz.prog 140 #[.agg #[.string s]] w (ChkRes w s) := by
  refine Rng.calls_of_marks (n := 1) Tryz.func140 rfl ?_
  simp only [Tryz.ntmps140, List.size_toArray, List.length_cons, List.length_nil, Nat.reduceAdd, Nat.reduceSub, Array.replicate_succ, Array.replicate_zero, List.push_toArray, List.append_toArray, List.nil_append, List.cons_append]
  go_wp2_with fail
  have hb2 : Below w.heap.size w ((w.alloc (.cells #[.string s] 183)).alloc (.cells #[.nilIface] 51)) := below_then (below_new _ _) (below_new _ _)
  have h2e : ((w.alloc (.cells #[.string s] 183)).alloc (.cells #[.nilIface] 51)).heap[w.heap.size + 1]? = some (.cells #[.nilIface] 51 (0, 0)) := by
    have := World.alloc_heap_new (w.alloc (.cells #[.string s] 183)) (.cells #[.nilIface] 51)
    rwa [World.size_alloc] at this
  have h2s : ((w.alloc (.cells #[.string s] 183)).alloc (.cells #[.nilIface] 51)).heap.size = w.heap.size + 2 := by simp
  generalize ((w.alloc (.cells #[.string s] 183)).alloc (.cells #[.nilIface] 51)) = W2 at hb2 h2e h2s ⊢
  have H2 := Aside.mk (And.intro hb2 (And.intro h2e h2s))
  clear hb2 h2e h2s
  refine (signs_maker s _ _).mono ?_
  rintro e w3 ⟨rfl, h3⟩
  have h3b : Below W2.heap.size W2 w3 := by rw [← h3]; exact below_then (below_new _ _) (below_new _ _)
  have h3t : w3.heap[W2.heap.size]? = some (.cells #[.string s] 181 (0, 0)) := by rw [← h3]; exact blk_below (World.alloc_heap_new W2 _) (below_new _ _)
  have h3x : w3.heap[W2.heap.size + 1]? = some (.cells #[.pointer (some ⟨w.heap.size + 1, 0, none⟩)] 188 (0, 0)) := by
    rw [← h3]
    have := World.alloc_heap_new (W2.alloc (.cells #[.string s] 181)) (.cells #[.pointer (some ⟨w.heap.size + 1, 0, none⟩)] 188)
    rwa [World.size_alloc] at this
  have h3s : w3.heap.size = W2.heap.size + 2 := by rw [← h3]; simp
  have H3 := Aside.mk (And.intro h3b (And.intro h3t (And.intro h3x h3s)))
  clear h3 h3b h3t h3x h3s
  go_wp2_with fail
  refine Rng.wp_range (n := 1) (gf := 148) (lb := #[.pointer (some ⟨W2.heap.size, 0, none⟩), .pointer (some ⟨W2.heap.size + 1, 0, none⟩)]) rfl (enters_of Tryz.func148 (by kernel_rfl) rfl) ?_
  intro fn
  generalize hrec : (Rng.Rec.mk fn _ _ _ _ _) = rc
  obtain ⟨W1, hW1⟩ : ∃ W1, W1 = (w3.alloc (.deferred (some []))).alloc (rc.at .ready none) := ⟨_, rfl⟩
  rw [← hW1]
  have hD := World.alloc_heap_new w3 (.deferred (some []))
  have hL := World.alloc_heap_new (w3.alloc (.deferred (some []))) (rc.at .ready none)
  have hD1 := blk_below hD (below_new _ (rc.at .ready none))
  have hbW : Below w3.heap.size w3 W1 := by rw [hW1]; exact below_then (below_new _ _) (below_new _ _)
  have hWs : W1.heap.size = w3.heap.size + 2 := by rw [hW1]; simp
  rw [World.size_alloc] at hL
  rw [← hW1] at hL hD1
  clear hW1 hD
  obtain ⟨hb2, h2e, h2s⟩ := H2.out
  obtain ⟨h3b, h3t, h3x, h3s⟩ := H3.out
  have hb23 := below_then h3b hbW
  have hTD : W2.heap.size < w3.heap.size := by omega
  have hXD : W2.heap.size + 1 < w3.heap.size := by omega
  have hED : w.heap.size + 1 < w3.heap.size := by omega
  have hwD : w.heap.size ≤ w3.heap.size := by omega
  have hEw : w.heap.size ≤ w.heap.size + 1 := by omega
  have hj0 : Jt rc w3.heap.size W2.heap.size (W2.heap.size + 1) (w.heap.size + 1) s w W1 := ⟨hD1, hL, blk_below h3t hbW, blk_below h3x hbW, blk_below h2e hb23, below_then hb2 hb23, by omega⟩
  have hfz : ∀ (W : World) (k : Nat) (cs : Array Value) (t : TypeId), W.heap[k]? = some (.cells cs t (0, 0)) → W.frozen? ⟨k, 0, none⟩ = false := fun W k cs t h => frz h 0
  clear h2s h3s hD1 hL
  refine (signs_iter (l0 := w3.heap.size + 1) (Tx := W2.heap.size) (Ex := W2.heap.size + 1) (K := w3.heap.size + 2) (E := ⟨w.heap.size + 1, 0, none⟩) hs (Jt rc w3.heap.size W2.heap.size (W2.heap.size + 1) (w.heap.size + 1) s w)
    (fun W h => cel h.t 0 rfl) (fun W h => cel h.x 0 rfl) (fun W h => ⟨_, cel h.e 0 rfl⟩) (fun W h => hfz _ _ _ _ h.e) (fun W h => tabs_below hu h.b) (fun W W' h hb => h.step hTD hXD hED hwD hb) (fun W h => h.z) ?_ W1 hj0 hWs).mono ?_
  · intro k r W hJ
    have ea := congrArg Rng.Rec.assign hrec
    have eb := congrArg Rng.Rec.body hrec
    have ep := congrArg Rng.Rec.params hrec
    have et := congrArg Rng.Rec.tmps hrec
    dsimp only at ea eb ep et
    refine ⟨rc.fn, _, _, _, run_yield (P := Tryz.prog) hJ.l (by rw [← ep]; rfl), Rng.round hJ.l ?_⟩
    rw [← ea, ← eb, ← ep, ← et]
    clear ea eb ep et hrec
    gi_wp2
    refine ⟨hJ.l, ?_⟩
    have hLb : (W.putObj (w3.heap.size + 1) (rc.at .busy none)).heap[w3.heap.size + 1]? = some (rc.at .busy none) := World.putObj_heap_same (Array.getElem?_eq_some_iff.1 hJ.l).1
    have hu := putObj_upd W (w3.heap.size + 1) (rc.at .busy none)
    gi_wp2
    have hu2 := putObj_upd (W.putObj (w3.heap.size + 1) (rc.at .busy none)) (w3.heap.size + 1) (rc.at .ready none)
    refine ⟨⟨hu2.blk (hu.blk hJ.d (by omega)) (by omega), World.putObj_heap_same (Array.getElem?_eq_some_iff.1 hLb).1, hu2.blk (hu.blk hJ.t (by omega)) (by omega), hu2.blk (hu.blk hJ.x (by omega)) (by omega), hu2.blk (hu.blk hJ.e (by omega)) (by omega), Upd.to_below (Upd.to_below hJ.b hu (by rintro k rfl; omega)) hu2 (by rintro k rfl; omega), by have := hJ.z; simpa [World.putObj] using this⟩, ?_⟩
    intro j hj
    simp only [World.putObj, Array.getElem?_setIfInBounds, Array.size_setIfInBounds]
    rw [if_neg (by omega), if_neg (by omega)]
  · rintro e W5 ⟨⟨v5, rfl⟩, hJ5⟩
    have key : ∃ ev, W5.heap[w3.heap.size]? = some (.deferred (some [])) ∧ W5.heap[w3.heap.size + 1]? = some (rc.at .ready none) ∧ W5.heap[w.heap.size + 1]? = some (.cells #[ev] 51 (0, 0)) ∧ Below w.heap.size w W5 ∧ ((utfB s = true ∧ ev = .nilIface) ∨ (utfB s = false ∧ ∃ n : Int, ev = .iface 192 (.agg #[.int .i64 n]))) := by
      rcases hJ5 with ⟨hq, hj⟩ | ⟨hq, n, W4, hj, rfl⟩
      · exact ⟨_, hj.d, hj.l, hj.e, hj.b, .inl ⟨hq, rfl⟩⟩
      · have hs4 := Upd.of_grown (S := fun k => k = w.heap.size + 1) (set_grown W4 (w.heap.size + 1) 0 (.iface 192 (.agg #[.int .i64 n]))) rfl
        exact ⟨_, hs4.blk hj.d (by omega), hs4.blk hj.l (by omega), set_blk hj.e 0 _, hj.b.setCell (p := ⟨w.heap.size + 1, 0, none⟩) hEw _, .inr ⟨hq, n, rfl⟩⟩
    obtain ⟨ev, a1, a2, a3, a5, a6⟩ := key
    refine ⟨⟨_, rfl⟩, .ready, none, by simp, a2, ?_⟩
    dsimp only
    have hu := putObj_upd W5 (w3.heap.size + 1) (rc.at .exhausted none)
    obtain ⟨WB, hWB⟩ : ∃ WB, WB = W5.putObj (w3.heap.size + 1) (rc.at .exhausted none) := ⟨_, rfl⟩
    rw [← hWB] at hu ⊢
    clear hWB hrec hJ5
    have A1 := Aside.mk (hu.blk a1 (by omega))
    have A5 := Aside.mk (Upd.to_below a5 hu (by rintro k rfl; omega))
    have c0 : WB.cell? ⟨w.heap.size + 1, 0, none⟩ = some ev := cel (hu.blk a3 (by omega)) 0 rfl
    have A6 := Aside.mk a6
    clear a1 a2 a3 a5 a6 hu hbW hb23 hj0
    go_wp2
    refine ⟨by simp, .inl ⟨_, _, rfl, run_takeDeferred A1.out, ?_⟩⟩
    have hu8 := putObj_upd WB w3.heap.size (.deferred none)
    refine ⟨ev, by simp [results, Tryz.f140, go_sem], ?_, Upd.to_below A5.out hu8 (by rintro k rfl; omega)⟩
    rcases A6.out with ⟨hq, rfl⟩ | ⟨hq, n, rfl⟩
    · exact .inl ⟨hq, rfl⟩
    · exact .inr ⟨hq, n, rfl⟩
set_option maxRecDepth 100000 in
theorem right_calls (s : ByteArray) (hs : s.size ≤ 1000000000) (w : World) (hu : Lib.Utf8Tabs 3 4 w) :
    Calls Tryz.prog 134 #[.string s] w fun e w' => e = .returned (.bool (utfB s)) ∧ Below w.heap.size w w' := by
  have HC := Aside.mk (check_calls s hs w hu)
  clear hu
  go_enter Tryz.func134, Tryz.ntmps134
  go_wp2_with fail
  refine HC.out.mono ?_
  rintro e w1 ⟨hc, hb⟩
  rcases hc with ⟨hq, rfl⟩ | ⟨hq, n, rfl⟩
  all_goals
    have HQ := Aside.mk hq
    clear hq
    go_wp2
    go_ret
    exact ⟨by rw [HQ.out]; rfl, hb⟩
end Go.Proofs.YtajpgigeploodaaGreatDoor.Utf
/- esc's reader: read. Conditions: the shape of memory that each theorem names; at most 10^6 bytes. -/
namespace Go.Proofs.YtajpgigeploodaaGreatDoor.Esc
open Go.RowKit
set_option linter.unusedVariables false
/-- what is read from a place on, behind what has been read -/
def readR (nm : Bool) (s : ByteArray) : Nat → Nat → List UInt8 → Option (List UInt8)
  | 0, _, l => some l
  | f + 1, k, l => if h : k < s.size then
      (if s[k] == 92 then (match signAt nm s (k + 1) with
        | some (z, a) => readR nm s f a (l ++ [z])
        | none => none)
      else if barB nm s.size k s[k] then none else readR nm s f (k + 1) (l ++ [s[k]]))
    else some l
/-- what a value's text says -/
def readL (nm : Bool) (s : ByteArray) : Option (List UInt8) := if !(Utf.utfB s) || s.data.toList.contains 0 then none else readR nm s s.size 0 []
def RdRes (w0 : World) (B : Nat) (s : ByteArray) (nm : Bool) (e : Ending) (w' : World) : Prop :=
  (∃ l a, readL nm s = some l ∧ e = .returned .nilIface ∧ RD w' B s a nm l ∧ l.length ≤ s.size ∧ Below w0.heap.size w0 w') ∨ (readL nm s = none ∧ (∃ n : Int, e = .returned (.iface 176 (.agg #[.int .i64 n]))) ∧ Below w0.heap.size w0 w')
theorem contains0 (s : ByteArray) (w : World) : Calls Tryz.prog 135 #[.string s, .int .i32 0] w fun e w' => e = .returned (.bool (s.data.toList.contains 0)) ∧ Below w.heap.size w w' := by
  refine (Shelf.strings_ContainsRune_ascii s 0 w (by decide) (by decide)).mono ?_
  rintro e w' ⟨rfl, rfl⟩
  exact ⟨by rw [Txt.index_mem]; rfl, Below.refl _ _⟩
theorem sgn_shape {w0 : World} {B : Nat} {s : ByteArray} {at_ : Nat} {nm : Bool} {l : List UInt8} {e : Ending} {w' : World} (h : SgnRes w0 B s at_ nm l e w') : ∃ v, e = .returned v := by
  rcases h with ⟨z, a, h1, h2, _⟩ | ⟨h1, ⟨n, h2⟩, h3⟩
  · exact ⟨_, h2⟩
  · exact ⟨_, h2⟩
set_option maxRecDepth 100000 in
set_option maxHeartbeats 8000000 in
theorem read_calls {w0 w : World} {B : Nat} {s : ByteArray} {nm : Bool} {p : Nat → Addr} (h : RD w B s 0 nm []) (hE : Env w0 p) (h0 : Below w0.heap.size w0 w) (hB0 : w0.heap.size ≤ B) (hs : s.size ≤ 100000000) :
    Calls Tryz.prog 131 #[.pointer (some ⟨B, 0, none⟩)] w (RdRes w0 B s nm) := by
  have HR := Aside.mk h
  have H0 := Aside.mk h0
  have HE := Aside.mk hE
  obtain ⟨p', v, hb, _⟩ := h
  have c0 := cel hb 0 (v := .string s) rfl
  have hB : B < w.heap.size := (Array.getElem?_eq_some_iff.1 hb).1
  clear hb h0 hE
  go_enter Tryz.func131, Tryz.ntmps131
  go_wp2_with fail
  refine (Utf.right_calls s (by omega) w (HE.out.below H0.out).ut).mono ?_
  rintro e w1 ⟨rfl, hb1⟩
  have HR1 := Aside.mk (HR.out.below hb1)
  have HB1 := Aside.mk (below_then H0.out hb1)
  have c1 := cell_below c0 hb1
  clear hb1 c0
  cases hu : Utf.utfB s with
  | false =>
    have HL := Aside.mk (show readL nm s = none by unfold readL; rw [hu]; rfl)
    clear hu
    go_wp2
    go_ret
    exact .inr ⟨HL.out, ⟨_, rfl⟩, HB1.out⟩
  | true =>
    have HU := Aside.mk hu
    clear hu
    go_wp2_with fail
    refine (contains0 s w1).mono ?_
    rintro e w2 ⟨rfl, hb2⟩
    have HR2 := Aside.mk (HR1.out.below hb2)
    have HB2 := Aside.mk (below_then HB1.out hb2)
    clear hb2 c1
    cases hz : s.data.toList.contains 0 with
    | true =>
      have HL := Aside.mk (show readL nm s = none by unfold readL; rw [hz, HU.out]; rfl)
      clear hz
      go_wp2
      go_ret
      exact .inr ⟨HL.out, ⟨_, rfl⟩, HB2.out⟩
    | false =>
      have HL := Aside.mk (show readL nm s = readR nm s s.size 0 [] by unfold readL; rw [hz, HU.out]; rfl)
      clear hz
      go_wp2_with fail
      go_loopg [] s.size (fun gk wr => Aside (∃ k l, RD wr B s k nm l ∧ Below w0.heap.size w0 wr ∧ k ≤ s.size ∧ s.size ≤ k + gk ∧ readR nm s gk k l = readL nm s ∧ l.length ≤ k))
      case atStart => exact ⟨⟨0, [], HR2.out, HB2.out, by omega, by omega, HL.out.symm, by simp⟩⟩
      case round =>
        obtain ⟨k, l, hr, hbw, hks, hgk, hu, hl⟩ := hrel.out
        clear hrel HL
        have HRw := Aside.mk hr
        have HBw := Aside.mk hbw
        have HUw := Aside.mk hu
        obtain ⟨p4, v4, hb4, _⟩ := hr
        have d0 := cel hb4 0 (v := .string s) rfl
        have d1 := cel hb4 1 (v := .int .i64 k) rfl
        have hB4 : B < wr.heap.size := (Array.getElem?_eq_some_iff.1 hb4).1
        clear hb4 hbw hu
        by_cases hk : k < s.size
        · obtain ⟨m, rfl⟩ : ∃ m, gk = m + 1 := ⟨gk - 1, by omega⟩
          have hki : (k : Int) < (s.size : Int) := by omega
          have hk0 : (0 : Int) ≤ (k : Int) := by omega
          have HST := Aside.mk (show readL nm s = (if s[k] == 92 then (match signAt nm s (k + 1) with
              | some (z, a) => readR nm s m a (l ++ [z])
              | none => none)
            else if barB nm s.size k s[k] then none else readR nm s m (k + 1) (l ++ [s[k]])) by rw [← HUw.out]; simp only [readR]; rw [dif_pos hk])
          have hidx : ∀ W : World, (Instr.index 9 (.string s) (.int .i64 (k : Int))).run Tryz.prog W = .ok (.int .u8 s[k].toNat) W := by
            intro W; go_simp
          generalize s[k] = b at HST hidx
          go_wp2_with fail
          go_quiet (fail)
          generalize hW2 : wr.drewN _ = W2
          have hb2 : Below wr.heap.size wr W2 := by rw [← hW2]; exact below_drewN _ _
          have HR3 := Aside.mk (HRw.out.below hb2)
          have HB3 := Aside.mk (below_then HBw.out hb2)
          have e0 := cell_below d0 hb2
          have e1 := cell_below d1 hb2
          have hB5 : B < W2.heap.size := Nat.lt_of_lt_of_le hB4 hb2.size
          clear hW2 hb2 d0 d1 hB4
          go_wp2_with fail
          go_quiet (fail)
          generalize hW3 : W2.drewN _ = W3
          have hb3 : Below W2.heap.size W2 W3 := by rw [← hW3]; exact below_drewN _ _
          have HR4 := Aside.mk (HR3.out.below hb3)
          have HB4 := Aside.mk (below_then HB3.out hb3)
          have hB6 : B < W3.heap.size := Nat.lt_of_lt_of_le hB5 hb3.size
          have f1 := cell_below e1 hb3
          clear hW3 hb3 e0 e1 hB5 hidx
          by_cases h92 : b = 92
          · subst h92
            have HS2 := Aside.mk (show readL nm s = (match signAt nm s (k + 1) with
              | some (z, a) => readR nm s m a (l ++ [z])
              | none => none) from HST.out)
            clear HST f1
            go_wp2_with fail
            refine (signed_calls HR4.out HE.out.gl HB4.out hB0 hk hs (by omega)).mono ?_
            rintro e w9 (⟨z, a, h1, rfl, h3, h4, h5, h6⟩ | ⟨h1, ⟨n, rfl⟩, h3⟩)
            · have HS3 := Aside.mk (show readR nm s m a (l ++ [z]) = readL nm s by rw [HS2.out, h1])
              have HR9 := Aside.mk h3
              have HB9 := Aside.mk h6
              clear h1 h3 h6 HS2
              go_wp2
              go_roundg m
              case measure => omega
              case rel => exact ⟨⟨a, l ++ [z], HR9.out, HB9.out, h5, by omega, HS3.out, by simp; omega⟩⟩
            · have HS3 := Aside.mk (show readL nm s = none by rw [HS2.out, h1])
              have HB9 := Aside.mk h3
              clear h1 h3 HS2
              go_wp2
              go_ret
              exact .inr ⟨HS3.out, ⟨n, rfl⟩, HB9.out⟩
          · have hbi : ((b.toNat : Int) == 92) = false := by
              rw [beq_eq_false_iff_ne]
              intro h; apply h92
              rw [← UInt8.toNat_inj]
              have : (92 : UInt8).toNat = 92 := rfl
              omega
            have HS2 := Aside.mk (show readL nm s = (if barB nm s.size k b then none else readR nm s m (k + 1) (l ++ [b])) by
              rw [HST.out, if_neg (by simpa using h92)])
            clear HST h92
            go_wp2_with fail
            refine (barred_calls HR4.out hk hs b).mono ?_
            rintro e w4 ⟨rfl, hb4⟩
            have HR5 := Aside.mk (HR4.out.below hb4)
            have HB5 := Aside.mk (below_then HB4.out hb4)
            have g1 := cell_below f1 hb4
            have hB7 : B < w4.heap.size := Nat.lt_of_lt_of_le hB6 hb4.size
            clear hb4 f1 hB6 hbi
            cases hbar : barB nm s.size k b with
            | true =>
              have HS3 := Aside.mk (show readL nm s = none by rw [HS2.out, hbar]; rfl)
              clear hbar HS2
              go_wp2
              go_ret
              exact .inr ⟨HS3.out, ⟨_, rfl⟩, HB5.out⟩
            | false =>
              have HS3 := Aside.mk (show readR nm s m (k + 1) (l ++ [b]) = readL nm s by rw [HS2.out, hbar]; rfl)
              clear hbar HS2 g1
              go_wp2_with fail
              refine (wbyte HR5.out hB7 (by omega) b).mono ?_
              rintro e w5 ⟨rfl, hr5, hb5⟩
              have HR6 := Aside.mk (RD.setAt hr5 (k + 1))
              have HB6 := Aside.mk ((HB5.out.trans (hb5.mono hB0)).setCell (p := ⟨B, 1, none⟩) hB0 (.int .i64 ((k + 1 : Nat) : Int)))
              rw [show ((k + 1 : Nat) : Int) = (k : Int) + 1 from rfl] at HR6 HB6
              obtain ⟨p6, v6, hb6, _⟩ := hr5
              have i1 := cel hb6 1 (v := .int .i64 k) rfl
              have j1 := frz hb6 1
              clear hb5 hb6 hB7
              go_wp2
              go_roundg m
              case measure => omega
              case rel => exact ⟨⟨k + 1, l ++ [b], HR6.out, HB6.out, by omega, by omega, HS3.out, by simp; omega⟩⟩
        · have hk2 : (s.size : Int) ≤ (k : Int) := by omega
          have HS3 := Aside.mk (show readL nm s = some l by
            rw [← HUw.out]
            cases gk with
            | zero => rfl
            | succ f => simp only [readR]; rw [dif_neg hk])
          clear hk
          go_wp2_with fail
          go_quiet (fail)
          generalize hW2 : wr.drewN _ = W2
          have hb2 : Below wr.heap.size wr W2 := by rw [← hW2]; exact below_drewN _ _
          have HR3 := Aside.mk (HRw.out.below hb2)
          have HB3 := Aside.mk (below_then HBw.out hb2)
          clear hW2 hb2 d0 d1 hB4
          go_wp2
          go_ret
          exact .inl ⟨l, k, HS3.out, rfl, HR3.out, by omega, HB3.out⟩
end Go.Proofs.YtajpgigeploodaaGreatDoor.Esc
/- plain: texts of ASCII are right; two digits are a byte. -/
namespace Go.Proofs.YtajpgigeploodaaGreatDoor.Dn
open Go.Lib
set_option linter.unusedVariables false
theorem utfR_ascii (s : ByteArray) (h : ∀ b ∈ s.data.toList, b.toNat < 128) : ∀ f pos, Utf.utfR s f pos = true
  | 0, _ => rfl
  | f + 1, pos => by
    rw [Utf.utfR]
    by_cases hp : pos < s.size
    · have hb : s[pos].toNat < 128 := h _ (by
        have : s.data.toList[pos]? = some s[pos] := by
          rw [Array.getElem?_toList]
          exact Array.getElem?_eq_getElem hp
        exact List.mem_of_getElem? this)
      rw [if_pos hp, decode_ascii s pos hp hb]
      have hn : (s[pos].toNat == 65533) = false := by rw [beq_eq_false_iff_ne]; omega
      simp only [hn, Bool.false_and, Bool.false_eq_true, if_false]
      exact utfR_ascii s h f _
    · rw [if_neg hp]
theorem utf_ascii (s : ByteArray) (h : ∀ b ∈ s.data.toList, b.toNat < 128) : Utf.utfB s = true := utfR_ascii s h _ _
theorem hex_plain : ∀ m : Fin 16, Esc.plainB (Code.hexD m.1) = true := by decide
set_option maxRecDepth 100000 in
theorem unhex_hex : ∀ b : UInt8, Code.unhex2 (Code.hexB b) = some [b] := by
  have all : ∀ m : Fin 256, Code.unhex2 (Code.hexB (UInt8.ofNat m.1)) = some [UInt8.ofNat m.1] := by decide
  intro b
  have := all ⟨b.toNat, b.toNat_lt⟩
  simpa using this
theorem at_drop (s : ByteArray) (p : Nat) (b : UInt8) (t : List UInt8) (h : s.data.toList.drop p = b :: t) : ∃ hp : p < s.size, s[p] = b ∧ s.data.toList.drop (p + 1) = t := by
  have hp : p < s.size := by
    rcases Nat.lt_or_ge p s.size with h1 | h1
    · exact h1
    · rw [List.drop_eq_nil_of_le (by rw [Txt.size_list]; omega)] at h; cases h
  rw [Txt.drop_cons s p hp] at h
  injection h with h1 h2
  exact ⟨hp, h1, h2⟩
end Go.Proofs.YtajpgigeploodaaGreatDoor.Dn
/- filt, plain: a value as it is printed in a filter, and read again. No program. -/
namespace Go.Proofs.YtajpgigeploodaaGreatDoor.Fl
open Go.Lib
set_option linter.unusedVariables false
/-- how a byte stands in a filter's text -/
def filR (_ : Nat) (b : UInt8) : Bool × Bool := (false, !Esc.plainB b || ([92, 42, 40, 41] : List UInt8).contains b)
def escB (b : UInt8) : List UInt8 := if (filR 0 b).2 then 92 :: Code.hexB b else [b]
def escF (v : List UInt8) : List UInt8 := v.flatMap escB
theorem out_flat : ∀ (v : List UInt8) (k : Nat), Esc.outF filR k v = escF v
  | [], _ => rfl
  | b :: t, k => by
    rw [Esc.outF, out_flat t (k + 1)]
    show _ = escB b ++ escF t
    congr 1
    unfold Esc.outB escB
    have : filR k b = filR 0 b := rfl
    rw [this]
    have h1 : (filR 0 b).1 = false := rfl
    cases h : (filR 0 b).2 <;> simp [h1]
/-- bytes that are printed by their digits, or as they are -/
structure Prints (g : UInt8 → List UInt8) : Prop where
  way : ∀ b, g b = 92 :: Code.hexB b ∨ (g b = [b] ∧ b ≠ 92 ∧ Esc.signs3.contains b = false ∧ Esc.plainB b = true)
theorem Prints.esc : Prints escB := ⟨fun b => by
  unfold escB
  cases h : (filR 0 b).2
  · refine .inr ⟨rfl, ?_⟩
    unfold filR at h
    rw [Bool.or_eq_false_iff, Bool.not_eq_false'] at h
    obtain ⟨h1, h2⟩ := h
    simp at h2
    refine ⟨h2.1, ?_, h1⟩
    unfold Esc.signs3
    simp [h2.2]
  · exact .inl rfl⟩
theorem Prints.hex : Prints (fun b => 92 :: Code.hexB b) := ⟨fun b => .inl rfl⟩
theorem drop_two (s : ByteArray) (p : Nat) (x y : UInt8) (t : List UInt8) (h : s.data.toList.drop p = x :: y :: t) : Esc.two s p = [x, y] ∧ p + 2 ≤ s.size ∧ s.data.toList.drop (p + 2) = t := by
  obtain ⟨h1, h2, h3⟩ := Dn.at_drop s p x _ h
  obtain ⟨h4, h5, h6⟩ := Dn.at_drop s (p + 1) y _ h3
  refine ⟨?_, by omega, h6⟩
  unfold Esc.two
  rw [h]; rfl
theorem flat_ge {g : UInt8 → List UInt8} (hg : Prints g) : ∀ v : List UInt8, v.length ≤ (v.flatMap g).length
  | [] => Nat.le_refl _
  | b :: t => by
    have := flat_ge hg t
    rw [List.flatMap_cons, List.length_append, List.length_cons]
    rcases hg.way b with h | ⟨h, _⟩
    · rw [h, List.length_cons]; omega
    · rw [h, List.length_singleton]; omega
theorem read_flat {g : UInt8 → List UInt8} (hg : Prints g) (s : ByteArray) : ∀ (v2 v1 : List UInt8) (p f : Nat), v2.length ≤ f → s.data.toList.drop p = v2.flatMap g → Esc.readR false s f p v1 = some (v1 ++ v2)
  | [], v1, p, f, _, h => by
    have hp : ¬ p < s.size := by
      intro hp
      rw [Txt.drop_cons s p hp] at h
      cases h
    cases f with
    | zero => rw [Esc.readR]; simp
    | succ f => rw [Esc.readR, dif_neg hp]; simp
  | b :: t, v1, p, 0, hf, _ => by simp at hf
  | b :: t, v1, p, f + 1, hf, h => by
    have hf' : t.length ≤ f := by simpa using hf
    rw [List.flatMap_cons] at h
    rcases hg.way b with e | ⟨e, h92, h3, _⟩
    · rw [e] at h
      obtain ⟨hp, h1, h2⟩ := Dn.at_drop s p 92 _ h
      obtain ⟨h4, h5, h6⟩ := drop_two s (p + 1) _ _ _ h2
      have hd : Esc.digitAt s (p + 1) = some b := by
        unfold Esc.digitAt
        rw [h4]
        have := Dn.unhex_hex b
        show (match Code.unhex2 (Code.hexB b) with | some [z] => some z | _ => none) = _
        rw [this]
      rw [Esc.readR, dif_pos hp, h1]
      have hs : Esc.signAt false s (p + 1) = some (b, p + 3) := by
        unfold Esc.signAt
        simp [hd]
      rw [hs]
      simp only [beq_self_eq_true, if_true]
      rw [read_flat hg s t (v1 ++ [b]) (p + 3) f hf' h6]
      simp
    · rw [e] at h
      obtain ⟨hp, h1, h2⟩ := Dn.at_drop s p b _ h
      have hb : Esc.barB false s.size p b = false := by unfold Esc.barB; rw [if_neg (by decide)]; exact h3
      have h9 : (b == 92) = false := by simpa using h92
      rw [Esc.readR, dif_pos hp, h1, h9, if_neg (by decide), hb, if_neg (by decide), read_flat hg s t (v1 ++ [b]) (p + 1) f hf' h2]
      simp
theorem flat_plain {g : UInt8 → List UInt8} (hg : Prints g) : ∀ v : List UInt8, ∀ b ∈ v.flatMap g, Esc.plainB b = true := fun v b hb => by
  obtain ⟨x, _, hx⟩ := List.mem_flatMap.1 hb
  rcases hg.way x with e | ⟨e, _, _, h⟩
  · rw [e] at hx
    have h1 := Dn.hex_plain ⟨x.toNat / 16, by have := x.toNat_lt; omega⟩
    have h2 := Dn.hex_plain ⟨x.toNat % 16, Nat.mod_lt _ (by decide)⟩
    dsimp only at h1 h2
    simp only [Code.hexB, List.mem_cons, List.not_mem_nil, or_false] at hx
    rcases hx with rfl | rfl | rfl
    · decide
    · exact h1
    · exact h2
  · rw [e, List.mem_singleton] at hx
    rw [hx]; exact h
/-- what is printed so, read, is the value -/
theorem read_back {g : UInt8 → List UInt8} (hg : Prints g) (v : List UInt8) : Esc.readL false ⟨(v.flatMap g).toArray⟩ = some v := by
  have hall : ∀ b ∈ v.flatMap g, 32 ≤ b.toNat ∧ b.toNat ≤ 126 := fun b hb => by simpa [Esc.plainB] using flat_plain hg v b hb
  have hu := Dn.utf_ascii ⟨(v.flatMap g).toArray⟩ (fun b hb => by have := (hall b hb).2; omega)
  have hz : (v.flatMap g).contains 0 = false := by
    cases h : (v.flatMap g).contains 0 with
    | false => rfl
    | true => have := (hall 0 (List.contains_iff_mem.1 h)).1; simp at this
  unfold Esc.readL
  rw [hu]
  show (if (!true || (v.flatMap g).contains 0) = true then none else _) = _
  rw [hz, if_neg (by decide)]
  exact read_flat hg _ v [] 0 _ (by rw [Txt.size_mk]; exact flat_ge hg v) rfl
/-- no sign that a filter's text has stands in it -/
theorem flat_signs {g : UInt8 → List UInt8} (hg : Prints g) (v : List UInt8) : ∀ b ∈ v.flatMap g, b ≠ 42 ∧ b ≠ 40 ∧ b ≠ 41 := fun b hb => by
  obtain ⟨x, _, hx⟩ := List.mem_flatMap.1 hb
  rcases hg.way x with e | ⟨e, _, h3, _⟩
  · have hd : ∀ m : Fin 16, Code.hexD m.1 ≠ 42 ∧ Code.hexD m.1 ≠ 40 ∧ Code.hexD m.1 ≠ 41 := by decide
    have h1 := hd ⟨x.toNat / 16, by have := x.toNat_lt; omega⟩
    have h2 := hd ⟨x.toNat % 16, Nat.mod_lt _ (by decide)⟩
    dsimp only at h1 h2
    rw [e] at hx
    simp only [Code.hexB, List.mem_cons, List.not_mem_nil, or_false] at hx
    rcases hx with rfl | rfl | rfl
    · decide
    · exact h1
    · exact h2
  · rw [e, List.mem_singleton] at hx
    subst hx
    unfold Esc.signs3 at h3
    simpa using h3
theorem hex_len (v : List UInt8) : (v.flatMap fun b => 92 :: Code.hexB b).length = 3 * v.length := by
  induction v with
  | nil => rfl
  | cons b t ih => rw [List.flatMap_cons, List.length_append, ih, List.length_cons]; simp [Code.hexB]; omega
theorem esc_len (v : List UInt8) : (escF v).length ≤ 3 * v.length := by
  induction v with
  | nil => exact Nat.le_refl _
  | cons b t ih =>
    show (escB b ++ escF t).length ≤ _
    have : (escB b).length ≤ 3 := by unfold escB; split <;> simp [Code.hexB]
    rw [List.length_append, List.length_cons]; omega
end Go.Proofs.YtajpgigeploodaaGreatDoor.Fl
/- plain: texts cut at a sign; the bytes of a type; all or none. -/
namespace Go.Proofs.YtajpgigeploodaaGreatDoor.Dn
open Go.Lib
set_option linter.unusedVariables false
theorem index_here (c : UInt8) (y : List UInt8) : ∀ x : List UInt8, c ∉ x → index (x ++ c :: y) [c] = (x.length : Int)
  | [], _ => by rw [List.nil_append, Txt.index_cons, if_pos rfl]; rfl
  | b :: t, h => by
    have h1 : b ≠ c := fun e => h (by simp [e])
    have h2 : c ∉ t := fun e => h (by simp [e])
    rw [List.cons_append, Txt.index_cons, if_neg h1, index_here c y t h2, if_neg (by omega), List.length_cons]
    omega
theorem cut_here (c : UInt8) (x y : List UInt8) (h : c ∉ x) : Lib.cut (x ++ c :: y) [c] = (x, y, true) := by
  unfold Lib.cut
  rw [index_here c y x h, if_pos (by omega)]
  have e : ((x.length : Int)).toNat = x.length := by omega
  rw [e, List.length_singleton, List.take_left' rfl]
  have : List.drop (x.length + 1) (x ++ c :: y) = y := by
    rw [List.drop_append, List.drop_eq_nil_of_le (by omega), show x.length + 1 - x.length = 1 by omega]; rfl
  rw [this]
/-- a byte of a type -/
def typeByte (b : UInt8) : Bool := letter b || digit b || decide (b.toNat = 45) || decide (b.toNat = 46)
theorem split_bytes (c : UInt8) (P : UInt8 → Bool) : ∀ l : List UInt8, (∀ z ∈ Txt.splitOn c l, z.all P = true) → ∀ b ∈ l, b = c ∨ P b = true
  | [], _, b, hb => by cases hb
  | x :: t, h, b, hb => by
    rw [Txt.splitOn] at h
    by_cases hx : x = c
    · rw [if_pos hx] at h
      rcases List.mem_cons.1 hb with rfl | hb
      · exact .inl hx
      · exact split_bytes c P t (fun z hz => h z (by simp [hz])) b hb
    · rw [if_neg hx] at h
      cases hs : Txt.splitOn c t with
      | nil => exact absurd hs (Txt.splitOn_ne c t)
      | cons z r =>
        rw [hs] at h
        have h1 := h (x :: z) (by simp)
        simp only [List.all_cons, Bool.and_eq_true] at h1
        rcases List.mem_cons.1 hb with rfl | hb
        · exact .inr h1.1
        · refine split_bytes c P t (fun q hq => ?_) b hb
          rw [hs] at hq
          rcases List.mem_cons.1 hq with rfl | hq
          · exact h1.2
          · exact h q (by simp [hq])
theorem type_bytes (l : List UInt8) (h : typeB l = true) : ∀ b ∈ l, typeByte b = true := by
  unfold typeB at h
  simp only [Bool.and_eq_true, Bool.or_eq_true] at h
  rcases h.2 with h1 | h1
  · intro b hb
    cases l with
    | nil => cases hb
    | cons c t =>
      simp only [keyB, Bool.and_eq_true] at h1
      rcases List.mem_cons.1 hb with rfl | hb
      · simp [typeByte, h1.1]
      · have := List.all_eq_true.1 h1.2 b hb
        simp only [keyRest, Bool.or_eq_true] at this
        simp only [typeByte, Bool.or_eq_true]
        exact .inl this
  · intro b hb
    have := split_bytes 46 digit l (fun z hz => by
      have := List.all_eq_true.1 h1.2 z hz
      unfold numB at this
      simp only [Bool.and_eq_true] at this
      exact this.2.1) b hb
    rcases this with rfl | h2
    · decide
    · simp [typeByte, h2]
theorem typeByte_ne (b : UInt8) (h : typeByte b = true) : b ≠ 92 ∧ b ≠ 61 ∧ b ≠ 44 ∧ b ≠ 43 := by
  refine ⟨?_, ?_, ?_, ?_⟩ <;> (rintro rfl; exact absurd h (by decide))
/-- all, or none -/
def allM {α β : Type} (f : α → Option β) : List α → Option (List β)
  | [] => some []
  | a :: t => match f a with
    | none => none
    | some b => (allM f t).map (b :: ·)
theorem allM_map {α β : Type} (f : α → Option β) (g : β → α) : ∀ l : List β, (∀ b ∈ l, f (g b) = some b) → allM f (l.map g) = some l
  | [], _ => rfl
  | b :: t, h => by
    rw [List.map_cons, allM, h b (by simp), allM_map f g t (fun x hx => h x (by simp [hx]))]
    rfl
end Go.Proofs.YtajpgigeploodaaGreatDoor.Dn
/- filt, plain: filters, which are right, their texts, and filters of texts; what is printed, read, is that. No program. -/
namespace Go.Proofs.YtajpgigeploodaaGreatDoor.Fl
open Go.Lib
set_option linter.unusedVariables false
inductive Flt where
  | mk (kind : Int) (name value : ByteArray) (any : List ByteArray) (final : ByteArray) (l : List Flt)
def Flt.kind : Flt → Int | .mk k _ _ _ _ _ => k
def Flt.name : Flt → ByteArray | .mk _ n _ _ _ _ => n
def Flt.value : Flt → ByteArray | .mk _ _ v _ _ _ => v
def Flt.any : Flt → List ByteArray | .mk _ _ _ a _ _ => a
def Flt.final : Flt → ByteArray | .mk _ _ _ _ f _ => f
def Flt.l : Flt → List Flt | .mk _ _ _ _ _ l => l
abbrev bl (s : ByteArray) : List UInt8 := s.data.toList
def optB (s : List UInt8) : Bool := !s.isEmpty && s.all Dn.keyRest
/-- an attribute's name -/
def nameB (s : List UInt8) : Bool := decide (s.length ≤ 30) && (match Txt.splitOn 59 s with
  | [] => false
  | t :: r => Dn.typeB t && r.all optB)
def bareB (v : ByteArray) (a : List ByteArray) (f : ByteArray) : Bool := decide (v.size = 0) && (a.isEmpty && decide (f.size = 0))
def shortB (s : ByteArray) : Bool := decide (s.size ≤ 60)
def namedB (n v : ByteArray) (a : List ByteArray) (f : ByteArray) (l : List Flt) : Bool := nameB (bl n) && (l.isEmpty && (shortB v && (shortB f && a.all shortB)))
/-- is a filter right, but for those in it? -/
def oneB : Flt → Bool
  | .mk k n v a f l =>
    if k = 0 ∨ k = 1 ∨ k = 2 then decide (n.size = 0) && (bareB v a f && (decide (1 ≤ l.length) && (decide (l.length ≤ 8) && decide (k = 2 → l.length ≤ 1))))
    else if k = 7 then namedB n v a f l && bareB v a f
    else if k = 4 then namedB n v a f l && (!bareB v a f && (decide (a.length ≤ 4) && a.all fun s => decide (s.size ≠ 0)))
    else if k = 3 ∨ k = 5 ∨ k = 6 ∨ k = 8 then namedB n v a f l && (a.isEmpty && decide (f.size = 0))
    else false
mutual
/-- right, and not too deep, where it stands so deep -/
def rightF : Nat → Flt → Bool
  | d, .mk k n v a f l => decide (d ≤ 6) && (oneB (.mk k n v a f l) && rightFs (d + 1) l)
def rightFs : Nat → List Flt → Bool
  | _, [] => true
  | d, x :: r => rightF d x && rightFs d r
end
def signB (k : Int) : List UInt8 := if k = 0 then [38] else if k = 1 then [124] else if k = 2 then [33] else if k = 3 then [61] else if k = 5 then [62, 61] else if k = 6 then [60, 61] else if k = 8 then [126, 61] else []
def midB (k : Int) (v : ByteArray) (a : List ByteArray) (f : ByteArray) : List UInt8 :=
  if k = 7 then [61, 42] else if k = 4 then 61 :: ((v :: a).flatMap fun s => escF (bl s) ++ [42]) ++ escF (bl f) else signB k ++ escF (bl v)
mutual
/-- a right filter's text -/
def prF : Flt → List UInt8
  | .mk k n v a f l => 40 :: (bl n ++ midB k v a f ++ prFs l ++ [41])
def prFs : List Flt → List UInt8
  | [] => []
  | x :: r => prF x ++ prFs r
end
/-- a text up to a byte, and behind it -/
def cutL (c : UInt8) : List UInt8 → Option (List UInt8 × List UInt8)
  | [] => none
  | x :: t => if x = c then some ([], t) else (cutL c t).map fun p => (x :: p.1, p.2)
def bt' (l : List UInt8) : ByteArray := ⟨l.toArray⟩
def readV (s : List UInt8) : Option ByteArray := (Esc.readL false (bt' s)).map bt'
/-- the kind that a name's end tells, and the name -/
def endK (name : List UInt8) : Int × List UInt8 :=
  if name.getLast? = some 62 then (5, name.dropLast) else if name.getLast? = some 60 then (6, name.dropLast) else if name.getLast? = some 126 then (8, name.dropLast) else (3, name)
/-- the filter of what stands between its signs -/
def itemF (s : List UInt8) : Option Flt := match cutL 61 s with
  | none => none
  | some (name, value) =>
    if (endK name).1 = 3 ∧ value.contains 42 = true then
      (if value = [42] then some (.mk 7 (bt' name) (bt' []) [] (bt' []) [])
      else match Dn.allM readV (Txt.splitOn 42 value) with
        | some (x :: r) => some (.mk 4 (bt' name) x r.dropLast (r.getLast?.getD (bt' [])) [])
        | _ => none)
    else (readV value).map fun w => .mk (endK name).1 (bt' (endK name).2) w [] (bt' []) []
def loopL (rd : List UInt8 → Option (Flt × List UInt8)) : Nat → List UInt8 → Option (List Flt × List UInt8)
  | 0, r => some ([], r)
  | f + 1, r => match r with
    | 40 :: _ => match rd r with
      | some (x, r') => (loopL rd f r').map fun p => (x :: p.1, p.2)
      | none => none
    | _ => some ([], r)
def setK (rd : List UInt8 → Option (Flt × List UInt8)) (k : Int) (r : List UInt8) : Option (Flt × List UInt8) := match loopL rd r.length r with
  | some (l, 41 :: t) => some (.mk k (bt' []) (bt' []) [] (bt' []) l, t)
  | _ => none
/-- a filter from a place on, at most so deep -/
def rdF : Nat → List UInt8 → Option (Flt × List UInt8)
  | 0, _ => none
  | d + 1, r => match r with
    | 40 :: r => match r with
      | 38 :: r => setK (rdF d) 0 r
      | 124 :: r => setK (rdF d) 1 r
      | 33 :: r => setK (rdF d) 2 r
      | r => match cutL 41 r with
        | some (s, t) => (itemF s).map fun f => (f, t)
        | none => none
    | _ => none
def parsedF (s : List UInt8) : Option Flt := match rdF 6 s with
  | some (f, []) => if rightF 1 f then some f else none
  | _ => none
/-! ### texts -/
theorem cutL_here (c : UInt8) (y : List UInt8) : ∀ x : List UInt8, c ∉ x → cutL c (x ++ c :: y) = some (x, y)
  | [], _ => by rw [List.nil_append, cutL, if_pos rfl]
  | b :: t, h => by
    have h1 : b ≠ c := fun e => h (by simp [e])
    have h2 : c ∉ t := fun e => h (by simp [e])
    rw [List.cons_append, cutL, if_neg h1, cutL_here c y t h2]; rfl
theorem split_none (c : UInt8) : ∀ x : List UInt8, c ∉ x → Txt.splitOn c x = [x]
  | [], _ => rfl
  | b :: t, h => by
    have h1 : b ≠ c := fun e => h (by simp [e])
    rw [Txt.splitOn, if_neg h1, split_none c t (fun e => h (by simp [e]))]
theorem split_here (c : UInt8) (y : List UInt8) : ∀ x : List UInt8, c ∉ x → Txt.splitOn c (x ++ c :: y) = x :: Txt.splitOn c y
  | [], _ => by rw [List.nil_append, Txt.splitOn, if_pos rfl]
  | b :: t, h => by
    have h1 : b ≠ c := fun e => h (by simp [e])
    rw [List.cons_append, Txt.splitOn, if_neg h1, split_here c y t (fun e => h (by simp [e]))]
theorem bl_bt (s : ByteArray) : bt' (bl s) = s := rfl
theorem bl_of (l : List UInt8) : bl (bt' l) = l := by simp [bl, bt']
theorem size_bl (s : ByteArray) : (bl s).length = s.size := Txt.size_list s
theorem size_zero {s : ByteArray} (h : s.size = 0) : s = bt' [] := ByteArray.ext (Array.eq_empty_of_size_eq_zero h)
theorem bl_zero {s : ByteArray} (h : s.size = 0) : bl s = [] := by rw [size_zero h]; rfl
theorem readV_esc (s : ByteArray) : readV (escF (bl s)) = some s := by
  unfold readV
  rw [show bt' (escF (bl s)) = ⟨((bl s).flatMap escB).toArray⟩ from rfl, read_back Prints.esc]; rfl
/-! ### names -/
def nameByte (b : UInt8) : Bool := Dn.typeByte b || decide (b.toNat = 59)
theorem split_mem (c : UInt8) : ∀ l : List UInt8, ∀ b ∈ l, b = c ∨ ∃ z ∈ Txt.splitOn c l, b ∈ z
  | [], b, h => by cases h
  | x :: t, b, h => by
    rw [Txt.splitOn]
    by_cases hx : x = c
    · rw [if_pos hx]
      rcases List.mem_cons.1 h with rfl | h
      · exact .inl hx
      · rcases split_mem c t b h with h | ⟨z, h1, h2⟩
        · exact .inl h
        · exact .inr ⟨z, by simp [h1], h2⟩
    · rw [if_neg hx]
      cases hs : Txt.splitOn c t with
      | nil => exact absurd hs (Txt.splitOn_ne c t)
      | cons a r =>
        rcases List.mem_cons.1 h with rfl | h
        · exact .inr ⟨b :: a, by simp, by simp⟩
        · rcases split_mem c t b h with h | ⟨z, h1, h2⟩
          · exact .inl h
          · rw [hs] at h1
            rcases List.mem_cons.1 h1 with rfl | h1
            · exact .inr ⟨x :: z, by simp, by simp [h2]⟩
            · exact .inr ⟨z, by simp [h1], h2⟩
theorem name_bytes {l : List UInt8} (h : nameB l = true) : ∀ b ∈ l, nameByte b = true := fun b hb => by
  unfold nameB at h
  rw [Bool.and_eq_true] at h
  have h2 := h.2
  split at h2
  · cases h2
  · rename_i t r hs
    rw [Bool.and_eq_true] at h2
    unfold nameByte
    rcases split_mem 59 l b hb with rfl | ⟨z, hz, hbz⟩
    · decide
    · rw [hs] at hz
      rcases List.mem_cons.1 hz with rfl | hz
      · rw [Dn.type_bytes z h2.1 b hbz]; rfl
      · have h3 := List.all_eq_true.1 h2.2 z hz
        unfold optB at h3
        rw [Bool.and_eq_true] at h3
        have h4 := List.all_eq_true.1 h3.2 b hbz
        unfold Dn.keyRest at h4
        unfold Dn.typeByte
        rw [h4]; rfl
theorem nameByte_ne {b : UInt8} (h : nameByte b = true) : b ≠ 61 ∧ b ≠ 41 ∧ b ≠ 40 ∧ b ≠ 42 ∧ b ≠ 62 ∧ b ≠ 60 ∧ b ≠ 126 ∧ b ≠ 38 ∧ b ≠ 124 ∧ b ≠ 33 := by
  refine ⟨?_, ?_, ?_, ?_, ?_, ?_, ?_, ?_, ?_, ?_⟩ <;> (rintro rfl; revert h; decide)
theorem name_ne {l : List UInt8} (h : nameB l = true) : l ≠ [] := by rintro rfl; revert h; decide
theorem end_name {l : List UInt8} (h : nameB l = true) : endK l = (3, l) := by
  have hb := name_bytes h
  have hl : ∀ c, l.getLast? = some c → nameByte c = true := fun c hc => hb c (List.mem_of_getLast? hc)
  unfold endK
  rw [if_neg (fun e => (nameByte_ne (hl _ e)).2.2.2.2.1 rfl), if_neg (fun e => (nameByte_ne (hl _ e)).2.2.2.2.2.1 rfl), if_neg (fun e => (nameByte_ne (hl _ e)).2.2.2.2.2.2.1 rfl)]
theorem end_sign (l : List UInt8) (c : UInt8) (k : Int) (h : (c = 62 ∧ k = 5) ∨ (c = 60 ∧ k = 6) ∨ (c = 126 ∧ k = 8)) : endK (l ++ [c]) = (k, l) := by
  unfold endK
  rw [List.getLast?_append]
  rcases h with ⟨rfl, rfl⟩ | ⟨rfl, rfl⟩ | ⟨rfl, rfl⟩ <;> simp
end Go.Proofs.YtajpgigeploodaaGreatDoor.Fl
