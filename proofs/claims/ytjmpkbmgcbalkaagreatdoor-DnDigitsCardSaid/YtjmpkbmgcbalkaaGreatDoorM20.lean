/- Several texts, one behind the other. utf.Right: is a text right? (its walk over signs). Conditions: the decoder's tables are laid; at most 10^9 bytes. utf.Right: a text's check (a loop over signs without a body), and what it answers. Conditions: the decoder's tables are laid; at most 10^9 bytes. esc's reader: read. Conditions: the shape of memory that each theorem names; at most 10^6 bytes. esc.ReadName, esc.ReadFilter: values of texts. Conditions: at most 10^6 bytes; the package-level variables of Env. dn, plain: a printed value, read, is that value. dn.part: the part of a piece. Conditions: at most 10^6 bytes; the package-level variables of Env. dn, plain: a printed part, read, is that part. dn, plain: what a text says as a name; a right name, printed and read, is itself. Contracts of functions of Go's library, as the kit's shelf proves them of whatever program, at this program's numbers. Each states its own conditions. -/
import Derived.Test.YtjmpkbmgcbalkaaGreatDoorM15
import Derived.Test.YtjmpkbmgcbalkaaGreatDoorM08
import Derived.Test.YtjmpkbmgcbalkaaGreatDoorM06
import Derived.Lib.TrimU
import Derived.Lib.OthersKept
import Derived.Lib.RuneCountTail
import Derived.Deep.LoopGhost
import Derived.Test.YtjmpkbmgcbalkaaGreatDoorM12
import Derived.Test.YtjmpkbmgcbalkaaGreatDoorM19
import Derived.Test.YtjmpkbmgcbalkaaGreatDoorM10
import Derived.Shelf.Strings.OnBuilder
import Derived.Test.YtjmpkbmgcbalkaaGreatDoorProg
/- utf.Right: is a text right? (its walk over signs). Conditions: the decoder's tables are laid; at most 10^9 bytes. -/
namespace Go.Proofs.YtjmpkbmgcbalkaaGreatDoor.Utf
open Go.RowKit Go.Lib
set_option linter.unusedVariables false
/-- no sign from a place on is wrong -/
def utfR (s : ByteArray) : Nat → Nat → Bool
  | 0, _ => true
  | f + 1, pos => if pos < s.size then (if (Utf8.decode s pos).1 == 65533 && (Utf8.decode s pos).2 == 1 then false else utfR s f (pos + (Utf8.decode s pos).2)) else true
def utfB (s : ByteArray) : Bool := utfR s s.size 0
theorem decode_tail (s : ByteArray) (pos : Nat) (h : pos < s.size) : Lib.decodeGo (s.extract pos s.size) = Utf8.decode s pos := by
  unfold Lib.decodeGo
  rw [if_neg (by rw [Lib.tail_size]; omega), Lib.tail_decode, Nat.add_zero]
attribute [local go_sem] Oper.semAt_some
/-- what the walk over signs leaves: J holds, or J and the error's cell set -/
def Walked (J : World → Prop) (E : Addr) (s : ByteArray) (W : World) : Prop :=
  (utfB s = true ∧ J W) ∨ (utfB s = false ∧ ∃ (n : Int) (W1 : World), J W1 ∧ W = W1.setCell E (.iface 183 (.agg #[.int .i64 n])))
set_option maxHeartbeats 4000000 in
theorem signs_iter {l0 Tx Ex K : Nat} {E : Addr} {s : ByteArray} (hs : s.size ≤ 1000000000) (J : World → Prop)
    (hJt : ∀ W, J W → W.cell? ⟨Tx, 0, none⟩ = some (.string s)) (hJe : ∀ W, J W → W.cell? ⟨Ex, 0, none⟩ = some (.pointer (some E))) (hJE : ∀ W, J W → ∃ v, W.cell? E = some v) (hJf : ∀ W, J W → W.frozen? E = false)
    (hJu : ∀ W, J W → Lib.Utf8Tabs 4 5 W) (hJb : ∀ W W', J W → Below K W W' → J W') (hJs : ∀ W, J W → K ≤ W.heap.size)
    (hY : ∀ (k r : Int) W, J W → ∃ fn tmps assign body, (Instr.yield l0 #[.int .i64 k, .int .i32 r]).run Tryz.prog W = .ok (.round l0 fn tmps assign body) W ∧ RoundIn Fence.wide 0 Tryz.prog l0 fn tmps assign body W (fun e W' => e = .returned (.bool true) ∧ J W' ∧ ∀ j, K ≤ j → W'.heap[j]? = W.heap[j]?))
    (W : World) (h0 : J W) (hK : W.heap.size = K) :
    Calls Tryz.prog 132 #[.func (.yield l0) #[] #[], .pointer (some ⟨Tx, 0, none⟩), .pointer (some ⟨Ex, 0, none⟩)] W fun e W' => (∃ v, e = .returned v) ∧ Walked J E s W' := by
  have c0 := hJt W h0
  subst hK
  go_enter Tryz.func132, Tryz.ntmps132
  go_wp2
  go_step3
  go_wp2
  go_step3
  go_wp2
  go_loopg [] s.size (fun gk wr => Aside (∃ pos : Nat, wr.heap[W.heap.size]? = some (.stringIter s pos) ∧ J wr ∧ s.size ≤ pos + gk ∧ utfR s gk pos = utfB s))
  case atStart => exact ⟨⟨0, World.iter_heap W s 0, hJb _ _ h0 (below_new _ _), by omega, rfl⟩⟩
  case round =>
    obtain ⟨pos, hit, hj, hgk, hu⟩ := hrel.out
    clear hrel c0
    have HU := Aside.mk hu
    have HJ := Aside.mk hj
    clear hu hj
    by_cases hp : pos < s.size
    · obtain ⟨m, rfl⟩ : ∃ m, gk = m + 1 := ⟨gk - 1, by omega⟩
      have hnx : ∀ ty, (Instr.next (.pointer (some ⟨W.heap.size, 0, none⟩)) true ty).run Tryz.prog wr = _ := fun ty => Lib.run_next_any_at wr W.heap.size s pos ty hit hp
      have HW1 := Aside.mk (Lib.width_pos s pos)
      have HD := Aside.mk (decode_tail s pos hp)
      have HST := Aside.mk (show utfB s = (if (Utf8.decode s pos).1 == 65533 && (Utf8.decode s pos).2 == 1 then false else utfR s m (pos + (Utf8.decode s pos).2)) by rw [← HU.out]; simp [utfR, hp])
      generalize Utf8.decode s pos = d at hnx HW1 HD HST
      obtain ⟨r, wd⟩ := d
      obtain ⟨w2, hw2⟩ : ∃ w2, wr.iterAt W.heap.size s (pos + wd) = w2 := ⟨_, rfl⟩
      have hit2 : w2.heap[W.heap.size]? = some (.stringIter s (pos + wd)) := by rw [← hw2]; exact Lib.iterAt_heap wr W.heap.size s pos _ hit
      have hj2 : J w2 := by rw [← hw2]; exact hJb _ _ HJ.out (Lib.below_iterAt (Below.refl _ _) (k := W.heap.size) (Nat.le_refl _) s _)
      have hpi : (0 : Int) ≤ (pos : Int) := by omega
      have hpj : (pos : Int) ≤ (s.size : Int) := by omega
      rw [hw2] at hnx
      clear hw2 hit
      have HI2 := Aside.mk hit2
      have HJ2 := Aside.mk hj2
      have c0 := hJt _ hj2
      have HC := Aside.mk (show Calls Tryz.prog 106 #[.string (s.extract pos s.size)] w2 fun e w' => e = .returned (.tuple #[.int .i32 r, .int .i64 wd]) ∧ Below w2.heap.size w2 w' by
        have := Shelf.utf8_DecodeRuneInString (s.extract pos s.size) w2 (hJu _ hj2)
        rwa [HD.out] at this)
      clear hit2 hj2
      refine (wpIn_wide (n := 1)).1 ?_
      gi_wp2_with fail
      refine ⟨trivial, callsIn_wide.2 (HC.out.mono ?_)⟩
      rintro e w3 ⟨rfl, hb⟩
      have hw2 : W.heap.size < w2.heap.size := (Array.getElem?_eq_some_iff.1 HI2.out).1
      have HI3 := Aside.mk (hb.block W.heap.size hw2 ▸ HI2.out)
      have HJ3 := Aside.mk (hJb _ _ HJ2.out (hb.mono (Nat.le_of_lt hw2)))
      clear hb c0
      by_cases hbad : r = 65533 ∧ wd = 1
      · obtain ⟨rfl, rfl⟩ := hbad
        have HF := Aside.mk (show utfB s = false by rw [HST.out]; rfl)
        have c1 := hJe _ HJ3.out
        obtain ⟨v0, c2⟩ := hJE _ HJ3.out
        have c3 := hJf _ HJ3.out
        clear hnx
        gi_wp2
        rw [Exit.noGoto_normal]
        go_end0
        exact ⟨⟨_, rfl⟩, .inr ⟨HF.out, _, w3, HJ3.out, rfl⟩⟩
      · have HT := Aside.mk (show utfB s = utfR s m (pos + wd) by
          rw [HST.out, if_neg]
          simp only [Bool.and_eq_true, beq_iff_eq]
          exact hbad)
        obtain ⟨fn, tm, asg, bo, hy, hR⟩ := hY pos r w3 HJ3.out
        have HRR := Aside.mk hR
        clear hR hnx
        have hcases : ((r : Int) == 65533) = false ∨ (((r : Int) == 65533) = true ∧ ((wd : Int) == 1) = false) := by
          by_cases h1 : r = 65533
          · right
            have : wd ≠ 1 := fun e => hbad ⟨h1, e⟩
            constructor
            · simp [h1]
            · rw [beq_eq_false_iff_ne]; omega
          · left; rw [beq_eq_false_iff_ne]; omega
        clear hbad
        rcases hcases with h1 | ⟨h1, h2⟩
        all_goals
          gi_wp2_with fail
          refine HRR.out.mono ?_
          rintro e w4 ⟨rfl, hj4, hk4⟩
          have HJ4 := Aside.mk hj4
          have HI4 := Aside.mk ((hk4 _ (Nat.le_refl _)).trans HI3.out)
          clear hj4 hk4 hy
          gi_wp2
          go_roundg m
        all_goals first
          | (case measure => omega)
          | (case rel => exact ⟨pos + wd, HI4.out, HJ4.out, by have := HW1.out; omega, HT.out.symm⟩)
          | skip
    · have HE := Aside.mk (show utfB s = true by
        rw [← HU.out]
        cases gk with
        | zero => rfl
        | succ f => simp [utfR, hp])
      have hnx : ∀ ty, (Instr.next (.pointer (some ⟨W.heap.size, 0, none⟩)) true ty).run Tryz.prog wr = _ := fun ty => Lib.run_next_end_at wr W.heap.size s pos ty hit hp
      clear hp
      go_wp2
      rw [Exit.noGoto_normal]
      go_end0
      exact ⟨⟨_, rfl⟩, .inl ⟨HE.out, HJ.out⟩⟩
end Go.Proofs.YtjmpkbmgcbalkaaGreatDoor.Utf
/- utf.Right: a text's check (a loop over signs without a body), and what it answers. Conditions: the decoder's tables are laid; at most 10^9 bytes. -/
namespace Go.Proofs.YtjmpkbmgcbalkaaGreatDoor.Utf
open Go.RowKit Go.Lib
set_option linter.unusedVariables false
attribute [local go_sem] Oper.semAt_some
theorem signs_maker (s : ByteArray) (E : Addr) (w : World) :
    Calls Tryz.prog 128 #[.agg #[.string s], .pointer (some E)] w fun e w' => e = .returned (.func (.func 132) #[] #[.pointer (some ⟨w.heap.size, 0, none⟩), .pointer (some ⟨w.heap.size + 1, 0, none⟩)]) ∧ (w.alloc (.cells #[.string s] 170)).alloc (.cells #[.pointer (some E)] 179) = w' := by
  go_enter Tryz.func128, Tryz.ntmps128
  go_wp2
  go_ret
  exact ⟨by simp, rfl⟩
/-- what holds between two rounds -/
structure Jt (rc : Rng.Rec) (D Tx Ex Eb : Nat) (s : ByteArray) (w W : World) : Prop where
  d : W.heap[D]? = some (.deferred (some []))
  l : W.heap[D + 1]? = some (rc.at .ready none)
  t : W.heap[Tx]? = some (.cells #[.string s] 170 (0, 0))
  x : W.heap[Ex]? = some (.cells #[.pointer (some ⟨Eb, 0, none⟩)] 179 (0, 0))
  e : W.heap[Eb]? = some (.cells #[.nilIface] 49 (0, 0))
  b : Below w.heap.size w W
  z : D + 2 ≤ W.heap.size
theorem Jt.step {rc : Rng.Rec} {D Tx Ex Eb : Nat} {s : ByteArray} {w W W' : World} (h : Jt rc D Tx Ex Eb s w W) (ht : Tx < D) (hx : Ex < D) (he : Eb < D) (hw : w.heap.size ≤ D) (hb : Below (D + 2) W W') : Jt rc D Tx Ex Eb s w W' where
  d := (hb.block D (by omega)).trans h.d
  l := (hb.block (D + 1) (by omega)).trans h.l
  t := (hb.block Tx (by omega)).trans h.t
  x := (hb.block Ex (by omega)).trans h.x
  e := (hb.block Eb (by omega)).trans h.e
  b := h.b.trans (hb.mono (by omega))
  z := Nat.le_trans h.z hb.size
/-- what a check answers -/
def ChkRes (w : World) (s : ByteArray) (e : Ending) (w' : World) : Prop :=
  ((utfB s = true ∧ e = .returned .nilIface) ∨ (utfB s = false ∧ ∃ n : Int, e = .returned (.iface 183 (.agg #[.int .i64 n])))) ∧ Below w.heap.size w w'
set_option maxRecDepth 100000 in
set_option maxHeartbeats 4000000 in
theorem check_calls (s : ByteArray) (hs : s.size ≤ 1000000000) (w : World) (hu : Lib.Utf8Tabs 4 5 w) :
    Calls Tryz.prog 122 #[.agg #[.string s]] w (ChkRes w s) := by
  refine Rng.calls_of_marks (n := 1) Tryz.func122 rfl ?_
  simp only [Tryz.ntmps122, List.size_toArray, List.length_cons, List.length_nil, Nat.reduceAdd, Nat.reduceSub, Array.replicate_succ, Array.replicate_zero, List.push_toArray, List.append_toArray, List.nil_append, List.cons_append]
  go_wp2_with fail
  have hb2 : Below w.heap.size w ((w.alloc (.cells #[.string s] 172)).alloc (.cells #[.nilIface] 49)) := below_then (below_new _ _) (below_new _ _)
  have h2e : ((w.alloc (.cells #[.string s] 172)).alloc (.cells #[.nilIface] 49)).heap[w.heap.size + 1]? = some (.cells #[.nilIface] 49 (0, 0)) := by
    have := World.alloc_heap_new (w.alloc (.cells #[.string s] 172)) (.cells #[.nilIface] 49)
    rwa [World.size_alloc] at this
  have h2s : ((w.alloc (.cells #[.string s] 172)).alloc (.cells #[.nilIface] 49)).heap.size = w.heap.size + 2 := by simp
  generalize ((w.alloc (.cells #[.string s] 172)).alloc (.cells #[.nilIface] 49)) = W2 at hb2 h2e h2s ⊢
  have H2 := Aside.mk (And.intro hb2 (And.intro h2e h2s))
  clear hb2 h2e h2s
  refine (signs_maker s _ _).mono ?_
  rintro e w3 ⟨rfl, h3⟩
  have h3b : Below W2.heap.size W2 w3 := by rw [← h3]; exact below_then (below_new _ _) (below_new _ _)
  have h3t : w3.heap[W2.heap.size]? = some (.cells #[.string s] 170 (0, 0)) := by rw [← h3]; exact blk_below (World.alloc_heap_new W2 _) (below_new _ _)
  have h3x : w3.heap[W2.heap.size + 1]? = some (.cells #[.pointer (some ⟨w.heap.size + 1, 0, none⟩)] 179 (0, 0)) := by
    rw [← h3]
    have := World.alloc_heap_new (W2.alloc (.cells #[.string s] 170)) (.cells #[.pointer (some ⟨w.heap.size + 1, 0, none⟩)] 179)
    rwa [World.size_alloc] at this
  have h3s : w3.heap.size = W2.heap.size + 2 := by rw [← h3]; simp
  have H3 := Aside.mk (And.intro h3b (And.intro h3t (And.intro h3x h3s)))
  clear h3 h3b h3t h3x h3s
  go_wp2_with fail
  refine Rng.wp_range (n := 1) (gf := 132) (lb := #[.pointer (some ⟨W2.heap.size, 0, none⟩), .pointer (some ⟨W2.heap.size + 1, 0, none⟩)]) rfl (enters_of Tryz.func132 (by kernel_rfl) rfl) ?_
  intro fn
  generalize hrec : (Rng.Rec.mk fn _ _ _ _ _) = rc
  obtain ⟨W1, hW1⟩ : ∃ W1, W1 = (w3.alloc (.deferred (some []))).alloc (rc.at .ready none) := ⟨_, rfl⟩
  rw [← hW1]
  have hD := World.alloc_heap_new w3 (.deferred (some []))
  have hL := World.alloc_heap_new (w3.alloc (.deferred (some []))) (rc.at .ready none)
  have hD1 := blk_below hD (below_new _ (rc.at .ready none))
  have hbW : Below w3.heap.size w3 W1 := by rw [hW1]; exact below_then (below_new _ _) (below_new _ _)
  have hWs : W1.heap.size = w3.heap.size + 2 := by rw [hW1]; simp
  rw [World.size_alloc] at hL
  rw [← hW1] at hL hD1
  clear hW1 hD
  obtain ⟨hb2, h2e, h2s⟩ := H2.out
  obtain ⟨h3b, h3t, h3x, h3s⟩ := H3.out
  have hb23 := below_then h3b hbW
  have hTD : W2.heap.size < w3.heap.size := by omega
  have hXD : W2.heap.size + 1 < w3.heap.size := by omega
  have hED : w.heap.size + 1 < w3.heap.size := by omega
  have hwD : w.heap.size ≤ w3.heap.size := by omega
  have hEw : w.heap.size ≤ w.heap.size + 1 := by omega
  have hj0 : Jt rc w3.heap.size W2.heap.size (W2.heap.size + 1) (w.heap.size + 1) s w W1 := ⟨hD1, hL, blk_below h3t hbW, blk_below h3x hbW, blk_below h2e hb23, below_then hb2 hb23, by omega⟩
  have hfz : ∀ (W : World) (k : Nat) (cs : Array Value) (t : TypeId), W.heap[k]? = some (.cells cs t (0, 0)) → W.frozen? ⟨k, 0, none⟩ = false := fun W k cs t h => frz h 0
  clear h2s h3s hD1 hL
  refine (signs_iter (l0 := w3.heap.size + 1) (Tx := W2.heap.size) (Ex := W2.heap.size + 1) (K := w3.heap.size + 2) (E := ⟨w.heap.size + 1, 0, none⟩) hs (Jt rc w3.heap.size W2.heap.size (W2.heap.size + 1) (w.heap.size + 1) s w)
    (fun W h => cel h.t 0 rfl) (fun W h => cel h.x 0 rfl) (fun W h => ⟨_, cel h.e 0 rfl⟩) (fun W h => hfz _ _ _ _ h.e) (fun W h => tabs_below hu h.b) (fun W W' h hb => h.step hTD hXD hED hwD hb) (fun W h => h.z) ?_ W1 hj0 hWs).mono ?_
  · intro k r W hJ
    have ea := congrArg Rng.Rec.assign hrec
    have eb := congrArg Rng.Rec.body hrec
    have ep := congrArg Rng.Rec.params hrec
    have et := congrArg Rng.Rec.tmps hrec
    dsimp only at ea eb ep et
    refine ⟨rc.fn, _, _, _, run_yield (P := Tryz.prog) hJ.l (by rw [← ep]; rfl), Rng.round hJ.l ?_⟩
    rw [← ea, ← eb, ← ep, ← et]
    clear ea eb ep et hrec
    gi_wp2
    refine ⟨hJ.l, ?_⟩
    have hLb : (W.putObj (w3.heap.size + 1) (rc.at .busy none)).heap[w3.heap.size + 1]? = some (rc.at .busy none) := World.putObj_heap_same (Array.getElem?_eq_some_iff.1 hJ.l).1
    have hu := putObj_upd W (w3.heap.size + 1) (rc.at .busy none)
    gi_wp2
    have hu2 := putObj_upd (W.putObj (w3.heap.size + 1) (rc.at .busy none)) (w3.heap.size + 1) (rc.at .ready none)
    refine ⟨⟨hu2.blk (hu.blk hJ.d (by omega)) (by omega), World.putObj_heap_same (Array.getElem?_eq_some_iff.1 hLb).1, hu2.blk (hu.blk hJ.t (by omega)) (by omega), hu2.blk (hu.blk hJ.x (by omega)) (by omega), hu2.blk (hu.blk hJ.e (by omega)) (by omega), Upd.to_below (Upd.to_below hJ.b hu (by rintro k rfl; omega)) hu2 (by rintro k rfl; omega), by have := hJ.z; simpa [World.putObj] using this⟩, ?_⟩
    intro j hj
    simp only [World.putObj, Array.getElem?_setIfInBounds, Array.size_setIfInBounds]
    rw [if_neg (by omega), if_neg (by omega)]
  · rintro e W5 ⟨⟨v5, rfl⟩, hJ5⟩
    have key : ∃ ev, W5.heap[w3.heap.size]? = some (.deferred (some [])) ∧ W5.heap[w3.heap.size + 1]? = some (rc.at .ready none) ∧ W5.heap[w.heap.size + 1]? = some (.cells #[ev] 49 (0, 0)) ∧ Below w.heap.size w W5 ∧ ((utfB s = true ∧ ev = .nilIface) ∨ (utfB s = false ∧ ∃ n : Int, ev = .iface 183 (.agg #[.int .i64 n]))) := by
      rcases hJ5 with ⟨hq, hj⟩ | ⟨hq, n, W4, hj, rfl⟩
      · exact ⟨_, hj.d, hj.l, hj.e, hj.b, .inl ⟨hq, rfl⟩⟩
      · have hs4 := Upd.of_grown (S := fun k => k = w.heap.size + 1) (set_grown W4 (w.heap.size + 1) 0 (.iface 183 (.agg #[.int .i64 n]))) rfl
        exact ⟨_, hs4.blk hj.d (by omega), hs4.blk hj.l (by omega), set_blk hj.e 0 _, hj.b.setCell (p := ⟨w.heap.size + 1, 0, none⟩) hEw _, .inr ⟨hq, n, rfl⟩⟩
    obtain ⟨ev, a1, a2, a3, a5, a6⟩ := key
    refine ⟨⟨_, rfl⟩, .ready, none, by simp, a2, ?_⟩
    dsimp only
    have hu := putObj_upd W5 (w3.heap.size + 1) (rc.at .exhausted none)
    obtain ⟨WB, hWB⟩ : ∃ WB, WB = W5.putObj (w3.heap.size + 1) (rc.at .exhausted none) := ⟨_, rfl⟩
    rw [← hWB] at hu ⊢
    clear hWB hrec hJ5
    have A1 := Aside.mk (hu.blk a1 (by omega))
    have A5 := Aside.mk (Upd.to_below a5 hu (by rintro k rfl; omega))
    have c0 : WB.cell? ⟨w.heap.size + 1, 0, none⟩ = some ev := cel (hu.blk a3 (by omega)) 0 rfl
    have A6 := Aside.mk a6
    clear a1 a2 a3 a5 a6 hu hbW hb23 hj0
    go_wp2
    refine ⟨by simp, .inl ⟨_, _, rfl, run_takeDeferred A1.out, ?_⟩⟩
    have hu8 := putObj_upd WB w3.heap.size (.deferred none)
    refine ⟨ev, by simp [results, Tryz.f122, go_sem], ?_, Upd.to_below A5.out hu8 (by rintro k rfl; omega)⟩
    rcases A6.out with ⟨hq, rfl⟩ | ⟨hq, n, rfl⟩
    · exact .inl ⟨hq, rfl⟩
    · exact .inr ⟨hq, n, rfl⟩
set_option maxRecDepth 100000 in
theorem right_calls (s : ByteArray) (hs : s.size ≤ 1000000000) (w : World) (hu : Lib.Utf8Tabs 4 5 w) :
    Calls Tryz.prog 117 #[.string s] w fun e w' => e = .returned (.bool (utfB s)) ∧ Below w.heap.size w w' := by
  have HC := Aside.mk (check_calls s hs w hu)
  clear hu
  go_enter Tryz.func117, Tryz.ntmps117
  go_wp2_with fail
  refine HC.out.mono ?_
  rintro e w1 ⟨hc, hb⟩
  rcases hc with ⟨hq, rfl⟩ | ⟨hq, n, rfl⟩
  all_goals
    have HQ := Aside.mk hq
    clear hq
    go_wp2
    go_ret
    exact ⟨by rw [HQ.out]; rfl, hb⟩
end Go.Proofs.YtjmpkbmgcbalkaaGreatDoor.Utf
/- esc's reader: read. Conditions: the shape of memory that each theorem names; at most 10^6 bytes. -/
namespace Go.Proofs.YtjmpkbmgcbalkaaGreatDoor.Esc
open Go.RowKit
set_option linter.unusedVariables false
/-- what is read from a place on, behind what has been read -/
def readR (nm : Bool) (s : ByteArray) : Nat → Nat → List UInt8 → Option (List UInt8)
  | 0, _, l => some l
  | f + 1, k, l => if h : k < s.size then
      (if s[k] == 92 then (match signAt nm s (k + 1) with
        | some (z, a) => readR nm s f a (l ++ [z])
        | none => none)
      else if barB nm s.size k s[k] then none else readR nm s f (k + 1) (l ++ [s[k]]))
    else some l
/-- what a value's text says -/
def readL (nm : Bool) (s : ByteArray) : Option (List UInt8) := if !(Utf.utfB s) || s.data.toList.contains 0 then none else readR nm s s.size 0 []
def RdRes (w0 : World) (B : Nat) (s : ByteArray) (nm : Bool) (e : Ending) (w' : World) : Prop :=
  (∃ l a, readL nm s = some l ∧ e = .returned .nilIface ∧ RD w' B s a nm l ∧ l.length ≤ s.size ∧ Below w0.heap.size w0 w') ∨ (readL nm s = none ∧ (∃ n : Int, e = .returned (.iface 161 (.agg #[.int .i64 n]))) ∧ Below w0.heap.size w0 w')
theorem contains0 (s : ByteArray) (w : World) : Calls Tryz.prog 118 #[.string s, .int .i32 0] w fun e w' => e = .returned (.bool (s.data.toList.contains 0)) ∧ Below w.heap.size w w' := by
  refine (Shelf.strings_ContainsRune_ascii s 0 w (by decide) (by decide)).mono ?_
  rintro e w' ⟨rfl, rfl⟩
  exact ⟨by rw [Txt.index_mem]; rfl, Below.refl _ _⟩
theorem sgn_shape {w0 : World} {B : Nat} {s : ByteArray} {at_ : Nat} {nm : Bool} {l : List UInt8} {e : Ending} {w' : World} (h : SgnRes w0 B s at_ nm l e w') : ∃ v, e = .returned v := by
  rcases h with ⟨z, a, h1, h2, _⟩ | ⟨h1, ⟨n, h2⟩, h3⟩
  · exact ⟨_, h2⟩
  · exact ⟨_, h2⟩
set_option maxRecDepth 100000 in
set_option maxHeartbeats 8000000 in
theorem read_calls {w0 w : World} {B : Nat} {s : ByteArray} {nm : Bool} {p : Nat → Addr} (h : RD w B s 0 nm []) (hE : Env w0 p) (h0 : Below w0.heap.size w0 w) (hB0 : w0.heap.size ≤ B) (hs : s.size ≤ 1000000) :
    Calls Tryz.prog 110 #[.pointer (some ⟨B, 0, none⟩)] w (RdRes w0 B s nm) := by
  have HR := Aside.mk h
  have H0 := Aside.mk h0
  have HE := Aside.mk hE
  obtain ⟨p', v, hb, _⟩ := h
  have c0 := cel hb 0 (v := .string s) rfl
  have hB : B < w.heap.size := (Array.getElem?_eq_some_iff.1 hb).1
  clear hb h0 hE
  go_enter Tryz.func110, Tryz.ntmps110
  go_wp2_with fail
  refine (Utf.right_calls s (by omega) w (HE.out.below H0.out).ut).mono ?_
  rintro e w1 ⟨rfl, hb1⟩
  have HR1 := Aside.mk (HR.out.below hb1)
  have HB1 := Aside.mk (below_then H0.out hb1)
  have c1 := cell_below c0 hb1
  clear hb1 c0
  cases hu : Utf.utfB s with
  | false =>
    have HL := Aside.mk (show readL nm s = none by unfold readL; rw [hu]; rfl)
    clear hu
    go_wp2
    go_ret
    exact .inr ⟨HL.out, ⟨_, rfl⟩, HB1.out⟩
  | true =>
    have HU := Aside.mk hu
    clear hu
    go_wp2_with fail
    refine (contains0 s w1).mono ?_
    rintro e w2 ⟨rfl, hb2⟩
    have HR2 := Aside.mk (HR1.out.below hb2)
    have HB2 := Aside.mk (below_then HB1.out hb2)
    clear hb2 c1
    cases hz : s.data.toList.contains 0 with
    | true =>
      have HL := Aside.mk (show readL nm s = none by unfold readL; rw [hz, HU.out]; rfl)
      clear hz
      go_wp2
      go_ret
      exact .inr ⟨HL.out, ⟨_, rfl⟩, HB2.out⟩
    | false =>
      have HL := Aside.mk (show readL nm s = readR nm s s.size 0 [] by unfold readL; rw [hz, HU.out]; rfl)
      clear hz
      go_wp2_with fail
      go_loopg [] s.size (fun gk wr => Aside (∃ k l, RD wr B s k nm l ∧ Below w0.heap.size w0 wr ∧ k ≤ s.size ∧ s.size ≤ k + gk ∧ readR nm s gk k l = readL nm s ∧ l.length ≤ k))
      case atStart => exact ⟨⟨0, [], HR2.out, HB2.out, by omega, by omega, HL.out.symm, by simp⟩⟩
      case round =>
        obtain ⟨k, l, hr, hbw, hks, hgk, hu, hl⟩ := hrel.out
        clear hrel HL
        have HRw := Aside.mk hr
        have HBw := Aside.mk hbw
        have HUw := Aside.mk hu
        obtain ⟨p4, v4, hb4, _⟩ := hr
        have d0 := cel hb4 0 (v := .string s) rfl
        have d1 := cel hb4 1 (v := .int .i64 k) rfl
        have hB4 : B < wr.heap.size := (Array.getElem?_eq_some_iff.1 hb4).1
        clear hb4 hbw hu
        by_cases hk : k < s.size
        · obtain ⟨m, rfl⟩ : ∃ m, gk = m + 1 := ⟨gk - 1, by omega⟩
          have hki : (k : Int) < (s.size : Int) := by omega
          have hk0 : (0 : Int) ≤ (k : Int) := by omega
          have HST := Aside.mk (show readL nm s = (if s[k] == 92 then (match signAt nm s (k + 1) with
              | some (z, a) => readR nm s m a (l ++ [z])
              | none => none)
            else if barB nm s.size k s[k] then none else readR nm s m (k + 1) (l ++ [s[k]])) by rw [← HUw.out]; simp only [readR]; rw [dif_pos hk])
          have hidx : ∀ W : World, (Instr.index 9 (.string s) (.int .i64 (k : Int))).run Tryz.prog W = .ok (.int .u8 s[k].toNat) W := by
            intro W; go_simp
          generalize s[k] = b at HST hidx
          go_wp2_with fail
          go_quiet (fail)
          generalize hW2 : wr.drewN _ = W2
          have hb2 : Below wr.heap.size wr W2 := by rw [← hW2]; exact below_drewN _ _
          have HR3 := Aside.mk (HRw.out.below hb2)
          have HB3 := Aside.mk (below_then HBw.out hb2)
          have e0 := cell_below d0 hb2
          have e1 := cell_below d1 hb2
          have hB5 : B < W2.heap.size := Nat.lt_of_lt_of_le hB4 hb2.size
          clear hW2 hb2 d0 d1 hB4
          go_wp2_with fail
          go_quiet (fail)
          generalize hW3 : W2.drewN _ = W3
          have hb3 : Below W2.heap.size W2 W3 := by rw [← hW3]; exact below_drewN _ _
          have HR4 := Aside.mk (HR3.out.below hb3)
          have HB4 := Aside.mk (below_then HB3.out hb3)
          have hB6 : B < W3.heap.size := Nat.lt_of_lt_of_le hB5 hb3.size
          have f1 := cell_below e1 hb3
          clear hW3 hb3 e0 e1 hB5 hidx
          by_cases h92 : b = 92
          · subst h92
            have HS2 := Aside.mk (show readL nm s = (match signAt nm s (k + 1) with
              | some (z, a) => readR nm s m a (l ++ [z])
              | none => none) from HST.out)
            clear HST f1
            go_wp2_with fail
            refine (signed_calls HR4.out HE.out.gl HB4.out hB0 hk hs (by omega)).mono ?_
            rintro e w9 (⟨z, a, h1, rfl, h3, h4, h5, h6⟩ | ⟨h1, ⟨n, rfl⟩, h3⟩)
            · have HS3 := Aside.mk (show readR nm s m a (l ++ [z]) = readL nm s by rw [HS2.out, h1])
              have HR9 := Aside.mk h3
              have HB9 := Aside.mk h6
              clear h1 h3 h6 HS2
              go_wp2
              go_roundg m
              case measure => omega
              case rel => exact ⟨⟨a, l ++ [z], HR9.out, HB9.out, h5, by omega, HS3.out, by simp; omega⟩⟩
            · have HS3 := Aside.mk (show readL nm s = none by rw [HS2.out, h1])
              have HB9 := Aside.mk h3
              clear h1 h3 HS2
              go_wp2
              go_ret
              exact .inr ⟨HS3.out, ⟨n, rfl⟩, HB9.out⟩
          · have hbi : ((b.toNat : Int) == 92) = false := by
              rw [beq_eq_false_iff_ne]
              intro h; apply h92
              rw [← UInt8.toNat_inj]
              have : (92 : UInt8).toNat = 92 := rfl
              omega
            have HS2 := Aside.mk (show readL nm s = (if barB nm s.size k b then none else readR nm s m (k + 1) (l ++ [b])) by
              rw [HST.out, if_neg (by simpa using h92)])
            clear HST h92
            go_wp2_with fail
            refine (barred_calls HR4.out hk hs b).mono ?_
            rintro e w4 ⟨rfl, hb4⟩
            have HR5 := Aside.mk (HR4.out.below hb4)
            have HB5 := Aside.mk (below_then HB4.out hb4)
            have g1 := cell_below f1 hb4
            have hB7 : B < w4.heap.size := Nat.lt_of_lt_of_le hB6 hb4.size
            clear hb4 f1 hB6 hbi
            cases hbar : barB nm s.size k b with
            | true =>
              have HS3 := Aside.mk (show readL nm s = none by rw [HS2.out, hbar]; rfl)
              clear hbar HS2
              go_wp2
              go_ret
              exact .inr ⟨HS3.out, ⟨_, rfl⟩, HB5.out⟩
            | false =>
              have HS3 := Aside.mk (show readR nm s m (k + 1) (l ++ [b]) = readL nm s by rw [HS2.out, hbar]; rfl)
              clear hbar HS2 g1
              go_wp2_with fail
              refine (wbyte HR5.out hB7 (by omega) b).mono ?_
              rintro e w5 ⟨rfl, hr5, hb5⟩
              have HR6 := Aside.mk (RD.setAt hr5 (k + 1))
              have HB6 := Aside.mk ((HB5.out.trans (hb5.mono hB0)).setCell (p := ⟨B, 1, none⟩) hB0 (.int .i64 ((k + 1 : Nat) : Int)))
              rw [show ((k + 1 : Nat) : Int) = (k : Int) + 1 from rfl] at HR6 HB6
              obtain ⟨p6, v6, hb6, _⟩ := hr5
              have i1 := cel hb6 1 (v := .int .i64 k) rfl
              have j1 := frz hb6 1
              clear hb5 hb6 hB7
              go_wp2
              go_roundg m
              case measure => omega
              case rel => exact ⟨⟨k + 1, l ++ [b], HR6.out, HB6.out, by omega, by omega, HS3.out, by simp; omega⟩⟩
        · have hk2 : (s.size : Int) ≤ (k : Int) := by omega
          have HS3 := Aside.mk (show readL nm s = some l by
            rw [← HUw.out]
            cases gk with
            | zero => rfl
            | succ f => simp only [readR]; rw [dif_neg hk])
          clear hk
          go_wp2_with fail
          go_quiet (fail)
          generalize hW2 : wr.drewN _ = W2
          have hb2 : Below wr.heap.size wr W2 := by rw [← hW2]; exact below_drewN _ _
          have HR3 := Aside.mk (HRw.out.below hb2)
          have HB3 := Aside.mk (below_then HBw.out hb2)
          clear hW2 hb2 d0 d1 hB4
          go_wp2
          go_ret
          exact .inl ⟨l, k, HS3.out, rfl, HR3.out, by omega, HB3.out⟩
end Go.Proofs.YtjmpkbmgcbalkaaGreatDoor.Esc
/- esc.ReadName, esc.ReadFilter: values of texts. Conditions: at most 10^6 bytes; the package-level variables of Env. -/
namespace Go.Proofs.YtjmpkbmgcbalkaaGreatDoor.Esc
open Go.RowKit
set_option linter.unusedVariables false
def readT (nm : Bool) (s : ByteArray) : List UInt8 := (readL nm s).getD []
def readC (nm : Bool) (s : ByteArray) : Int := if (readL nm s).isSome then 0 else 60
set_option maxRecDepth 100000 in
set_option maxHeartbeats 4000000 in
theorem read_fn (s : ByteArray) (nm : Bool) (hs : s.size ≤ 1000000) (w : World) (p : Nat → Addr) (hE : Env w p) :
    Calls Tryz.prog 97 #[.string s, .bool nm] w fun e w' => e = .returned (.tuple #[.string ⟨(readT nm s).toArray⟩, .int .i64 (readC nm s)]) ∧ Below w.heap.size w w' := by
  have HE := Aside.mk hE
  clear hE
  have hb0 := below_new w (.cells #[.string s, .int .i64 0, .bool nm, .pointer none, .slice none 0 0] 154)
  have hr0 : RD (w.alloc (.cells #[.string s, .int .i64 0, .bool nm, .pointer none, .slice none 0 0] 154)) w.heap.size s 0 nm [] :=
    ⟨_, _, World.alloc_heap_new w _, .inl rfl, ⟨by simp [Lib.byteCells], .inl ⟨rfl, rfl⟩⟩, fun _ => rfl⟩
  have HC := Aside.mk (read_calls hr0 HE.out hb0 (Nat.le_refl _) hs)
  clear hb0 hr0
  go_enter Tryz.func97, Tryz.ntmps97
  go_wp2_with fail
  refine HC.out.mono ?_
  rintro e w1 (⟨l, a, h1, rfl, h3, h4, h5⟩ | ⟨h1, ⟨n, rfl⟩, h3⟩)
  · have HT := Aside.mk (show readT nm s = l by unfold readT; rw [h1]; rfl)
    have HD := Aside.mk (show readC nm s = 0 by unfold readC; rw [h1]; rfl)
    have HR := Aside.mk h3
    have HB := Aside.mk h5
    clear h1 h3 h5
    go_wp2_with fail
    refine (text_of HR.out).mono ?_
    rintro e w2 ⟨rfl, hb⟩
    have HB2 := Aside.mk (HB.out.trans hb)
    clear hb
    go_wp2
    go_ret2
    exact ⟨by rw [HT.out, HD.out]; rfl, HB2.out⟩
  · have HT := Aside.mk (show readT nm s = [] by unfold readT; rw [h1]; rfl)
    have HD := Aside.mk (show readC nm s = 60 by unfold readC; rw [h1]; rfl)
    have HB := Aside.mk h3
    clear h1 h3
    go_wp2_with fail
    refine (ToldEsc.told_wrong (.int .i64 n) rfl w1 p (HE.out.gl.below HB.out)).mono ?_
    rintro e w2 ⟨rfl, hb⟩
    have HB2 := Aside.mk (below_then HB.out hb)
    clear hb
    go_wp2
    go_ret2
    exact ⟨by rw [HT.out, HD.out]; rfl, HB2.out⟩
theorem readName_calls (s : ByteArray) (hs : s.size ≤ 1000000) (w : World) (p : Nat → Addr) (hE : Env w p) :
    Calls Tryz.prog 84 #[.string s] w fun e w' => e = .returned (.tuple #[.string ⟨(readT true s).toArray⟩, .int .i64 (readC true s)]) ∧ Below w.heap.size w w' := by
  have HC := Aside.mk (read_fn s true hs w p hE)
  clear hE
  go_enter Tryz.func84, Tryz.ntmps84
  go_wp2_with fail
  refine HC.out.mono ?_
  rintro e w1 ⟨rfl, hb⟩
  have HB := Aside.mk hb
  clear hb
  go_wp2
  go_ret2
  exact ⟨rfl, HB.out⟩
end Go.Proofs.YtjmpkbmgcbalkaaGreatDoor.Esc
/- dn, plain: a printed value, read, is that value. -/
namespace Go.Proofs.YtjmpkbmgcbalkaaGreatDoor.Dn
open Go.Lib
set_option linter.unusedVariables false
theorem utfR_ascii (s : ByteArray) (h : ∀ b ∈ s.data.toList, b.toNat < 128) : ∀ f pos, Utf.utfR s f pos = true
  | 0, _ => rfl
  | f + 1, pos => by
    rw [Utf.utfR]
    by_cases hp : pos < s.size
    · have hb : s[pos].toNat < 128 := h _ (by
        have : s.data.toList[pos]? = some s[pos] := by
          rw [Array.getElem?_toList]
          exact Array.getElem?_eq_getElem hp
        exact List.mem_of_getElem? this)
      rw [if_pos hp, decode_ascii s pos hp hb]
      have hn : (s[pos].toNat == 65533) = false := by rw [beq_eq_false_iff_ne]; omega
      simp only [hn, Bool.false_and, Bool.false_eq_true, if_false]
      exact utfR_ascii s h f _
    · rw [if_neg hp]
theorem utf_ascii (s : ByteArray) (h : ∀ b ∈ s.data.toList, b.toNat < 128) : Utf.utfB s = true := utfR_ascii s h _ _
theorem hex_plain : ∀ m : Fin 16, Esc.plainB (Code.hexD m.1) = true := by decide
theorem outB_plain (n k : Nat) (b : UInt8) : (Esc.outB (Esc.nameR n) k b).all Esc.plainB = true := by
  unfold Esc.outB
  have h92 : Esc.plainB 92 = true := by decide
  cases hd : (Esc.nameR n k b).2 with
  | true =>
    have h1 := hex_plain ⟨b.toNat / 16, by have := b.toNat_lt; omega⟩
    have h2 := hex_plain ⟨b.toNat % 16, Nat.mod_lt _ (by decide)⟩
    dsimp only at h1 h2
    simp [Code.hexB, h92, h1, h2]
  | false =>
    have hp : Esc.plainB b = true := by
      have : (Esc.nameR n k b).2 = !Esc.plainB b := rfl
      rw [hd] at this
      simpa using this.symm
    cases hs : (Esc.nameR n k b).1 <;> simp [h92, hp]
theorem outF_plain (n : Nat) : ∀ (l : List UInt8) (k : Nat), (Esc.outF (Esc.nameR n) k l).all Esc.plainB = true
  | [], _ => rfl
  | b :: t, k => by rw [Esc.outF, List.all_append, outB_plain, outF_plain n t (k + 1)]; rfl
set_option maxRecDepth 100000 in
theorem unhex_hex : ∀ b : UInt8, Code.unhex2 (Code.hexB b) = some [b] := by
  have all : ∀ m : Fin 256, Code.unhex2 (Code.hexB (UInt8.ofNat m.1)) = some [UInt8.ofNat m.1] := by decide
  intro b
  have := all ⟨b.toNat, b.toNat_lt⟩
  simpa using this
theorem hex_nosign : ∀ m : Fin 16, Esc.signs10.contains (Code.hexD m.1) = false := by decide
theorem at_drop (s : ByteArray) (p : Nat) (b : UInt8) (t : List UInt8) (h : s.data.toList.drop p = b :: t) : ∃ hp : p < s.size, s[p] = b ∧ s.data.toList.drop (p + 1) = t := by
  have hp : p < s.size := by
    rcases Nat.lt_or_ge p s.size with h1 | h1
    · exact h1
    · rw [List.drop_eq_nil_of_le (by rw [Txt.size_list]; omega)] at h; cases h
  rw [Txt.drop_cons s p hp] at h
  injection h with h1 h2
  exact ⟨hp, h1, h2⟩
theorem outB_ne (n k : Nat) (b : UInt8) : 1 ≤ (Esc.outB (Esc.nameR n) k b).length := by
  unfold Esc.outB
  cases (Esc.nameR n k b).1 <;> cases (Esc.nameR n k b).2 <;> simp [Code.hexB]
theorem outF_ge (n : Nat) : ∀ (l : List UInt8) (k : Nat), l.length ≤ (Esc.outF (Esc.nameR n) k l).length
  | [], _ => Nat.le_refl _
  | b :: t, k => by
    have := outF_ge n t (k + 1)
    have := outB_ne n k b
    rw [Esc.outF, List.length_append, List.length_cons]; omega
theorem read_step (s : ByteArray) (n : Nat) : ∀ (v2 v1 : List UInt8) (p f : Nat), n = v1.length + v2.length → (v1 = [] → p = 0) → v1.length ≤ p → v2.length ≤ f → s.data.toList.drop p = Esc.outF (Esc.nameR n) v1.length v2 → Esc.readR true s f p v1 = some (v1 ++ v2)
  | [], v1, p, f, _, _, _, _, h => by
    rw [Esc.outF] at h
    have hp : ¬ p < s.size := by
      intro hp
      rw [Txt.drop_cons s p hp] at h; cases h
    cases f with
    | zero => simp [Esc.readR]
    | succ f => simp [Esc.readR, hp]
  | b :: t, v1, p, 0, _, _, _, hf, _ => by simp at hf
  | b :: t, v1, p, f + 1, hn, h0, hp, hf, h => by
    have hf' : t.length ≤ f := by simpa using hf
    have hlen : (v1 ++ [b]).length = v1.length + 1 := by simp
    have hn' : n = (v1 ++ [b]).length + t.length := by rw [hlen]; simp at hn; omega
    have e2 : v1 ++ b :: t = (v1 ++ [b]) ++ t := by simp
    rw [Esc.outF, Esc.outB] at h
    rw [e2]
    cases hd : (Esc.nameR n v1.length b).2 with
    | true =>
      rw [hd] at h
      simp only [Bool.or_true, if_true, Code.hexB, List.cons_append, List.nil_append] at h
      obtain ⟨p0, q0, r0⟩ := at_drop s p _ _ h
      obtain ⟨p1, q1, r1⟩ := at_drop s (p + 1) _ _ r0
      obtain ⟨p2, q2, r2⟩ := at_drop s (p + 1 + 1) _ _ r1
      have hns := hex_nosign ⟨b.toNat / 16, by have := b.toNat_lt; omega⟩
      have hsg : Esc.signAt true s (p + 1) = some (b, p + 1 + 2) := by
        have htw : Esc.two s (p + 1) = Code.hexB b := by
          unfold Esc.two
          rw [r0]; rfl
        unfold Esc.signAt Esc.digitAt
        rw [dif_pos p1, q1, Bool.true_and, if_neg (by rw [hns]; decide), htw, unhex_hex]
        rfl
      rw [Esc.readR, dif_pos p0, q0, if_pos (by decide), hsg]
      exact read_step s n t (v1 ++ [b]) (p + 1 + 2) f hn' (fun e => by simp at e) (by rw [hlen]; omega) hf' (by rw [hlen]; exact r2)
    | false =>
      rw [hd] at h
      cases hs : (Esc.nameR n v1.length b).1 with
      | true =>
        rw [hs] at h
        simp only [Bool.or_false, if_true, Bool.false_eq_true, if_false, List.cons_append, List.nil_append] at h
        obtain ⟨p0, q0, r0⟩ := at_drop s p _ _ h
        obtain ⟨p1, q1, r1⟩ := at_drop s (p + 1) _ _ r0
        have h10 : Esc.signs10.contains b = true := by
          have hx : ((v1.length == 0 && Esc.first2.contains b) || (v1.length + 1 == n && b == 32) || Esc.signs7.contains b) = true := hs
          simp only [Bool.or_eq_true, Bool.and_eq_true, List.contains_iff_mem, beq_iff_eq, Esc.first2, Esc.signs7, List.mem_cons, List.not_mem_nil, or_false] at hx
          simp only [List.contains_iff_mem, Esc.signs10, List.mem_cons, List.not_mem_nil, or_false]
          rcases hx with (⟨_, rfl | rfl⟩ | ⟨_, rfl⟩) | rfl | rfl | rfl | rfl | rfl | rfl | rfl <;> simp
        have hsg : Esc.signAt true s (p + 1) = some (b, p + 1 + 1) := by
          unfold Esc.signAt
          rw [dif_pos p1, q1, Bool.true_and, if_pos h10]
        rw [Esc.readR, dif_pos p0, q0, if_pos (by decide), hsg]
        exact read_step s n t (v1 ++ [b]) (p + 1 + 1) f hn' (fun e => by simp at e) (by rw [hlen]; omega) hf' (by rw [hlen]; exact r1)
      | false =>
        rw [hs] at h
        simp only [Bool.or_false, Bool.false_eq_true, if_false, List.cons_append, List.nil_append] at h
        obtain ⟨p0, q0, r0⟩ := at_drop s p _ _ h
        have hx : ((v1.length == 0 && Esc.first2.contains b) || (v1.length + 1 == n && b == 32) || Esc.signs7.contains b) = false := hs
        simp only [Bool.or_eq_false_iff] at hx
        obtain ⟨⟨x1, x2⟩, x3⟩ := hx
        have hb92 : ¬ (b == 92) = true := by
          intro e; rw [beq_iff_eq] at e; subst e; simp [Esc.signs7] at x3
        have hbar : Esc.barB true s.size p b = false := by
          have y1 : (p == 0 && Esc.first2.contains b) = false := by
            rcases Nat.eq_zero_or_pos v1.length with h1 | h1
            · rw [h1] at x1; rw [h0 (List.eq_nil_of_length_eq_zero h1)]; exact x1
            · have : (p == 0) = false := by rw [beq_eq_false_iff_ne]; omega
              rw [this]; rfl
          have y2 : (p + 1 == s.size && b == 32) = false := by
            cases t with
            | nil =>
              have : (v1.length + 1 == n) = true := by rw [beq_iff_eq]; simp at hn; omega
              rw [this, Bool.true_and] at x2
              rw [x2, Bool.and_false]
            | cons z t =>
              have hl := congrArg List.length r0
              have hg := outF_ge n (z :: t) (v1.length + 1)
              rw [List.length_drop, Txt.size_list] at hl
              simp only [List.length_cons] at hg
              have : (p + 1 == s.size) = false := by rw [beq_eq_false_iff_ne]; omega
              rw [this]; rfl
          have y3 : Esc.signs6.contains b = false := by
            cases h6 : Esc.signs6.contains b with
            | false => rfl
            | true =>
              rw [List.contains_iff_mem] at h6
              have : Esc.signs7.contains b = true := by
                rw [List.contains_iff_mem]
                simp only [Esc.signs6, Esc.signs7, List.mem_cons, List.not_mem_nil, or_false] at h6 ⊢
                rcases h6 with rfl | rfl | rfl | rfl | rfl | rfl <;> simp
              rw [this] at x3; cases x3
          show ((p == 0 && Esc.first2.contains b) || (p + 1 == s.size && b == 32) || Esc.signs6.contains b) = false
          rw [y1, y2, y3]; rfl
        rw [Esc.readR, dif_pos p0, q0, if_neg hb92, hbar]
        exact read_step s n t (v1 ++ [b]) (p + 1) f hn' (fun e => by simp at e) (by rw [hlen]; omega) hf' (by rw [hlen]; exact r0)
/-- a value, printed and read, is itself -/
theorem read_printed (v : List UInt8) : Esc.readL true ⟨(Esc.outF (Esc.nameR v.length) 0 v).toArray⟩ = some v := by
  have hp := outF_plain v.length v 0
  have hall : ∀ b ∈ Esc.outF (Esc.nameR v.length) 0 v, 32 ≤ b.toNat ∧ b.toNat ≤ 126 := by
    intro b hb
    have := List.all_eq_true.1 hp b hb
    simpa [Esc.plainB] using this
  have hu := utf_ascii ⟨(Esc.outF (Esc.nameR v.length) 0 v).toArray⟩ (fun b hb => by have := (hall b hb).2; omega)
  have hz : (Esc.outF (Esc.nameR v.length) 0 v).contains 0 = false := by
    cases h : (Esc.outF (Esc.nameR v.length) 0 v).contains 0 with
    | false => rfl
    | true => have := (hall 0 (List.contains_iff_mem.1 h)).1; simp at this
  unfold Esc.readL
  rw [hu]
  show (if (!true || (Esc.outF (Esc.nameR v.length) 0 v).contains 0) = true then none else _) = _
  rw [hz, if_neg (by decide)]
  exact read_step _ v.length v [] 0 _ (by simp) (fun _ => rfl) (Nat.le_refl _) (by rw [Txt.size_mk]; exact outF_ge _ _ _) rfl
end Go.Proofs.YtjmpkbmgcbalkaaGreatDoor.Dn
/- dn.part: the part of a piece. Conditions: at most 10^6 bytes; the package-level variables of Env. -/
namespace Go.Proofs.YtjmpkbmgcbalkaaGreatDoor.Dn
open Go.RowKit
set_option linter.unusedVariables false
/-- what a piece says -/
def partA (s : ByteArray) : Option Ava :=
  if (Lib.cut s.data.toList [61]).2.2 then (Esc.readL true ⟨(Lib.cut s.data.toList [61]).2.1.toArray⟩).map fun v => (⟨(Lib.cut s.data.toList [61]).1.toArray⟩, ⟨v.toArray⟩) else none
theorem cut_le (l sep : List UInt8) : (Lib.cut l sep).2.1.length ≤ l.length := by
  unfold Lib.cut
  split
  · simp only [List.length_drop]; omega
  · simp
theorem part_out (W : World) (k : Nat) (x y : ByteArray) (hb : W.heap[k]? = some (.cells #[.string x, .string y] 39 (0, 0))) (tmps : Array Value) (h2 : tmps.getD 2 undef = .pointer (some ⟨k, 0, none⟩)) :
    (results Tryz.f60 tmps).run Tryz.prog W = .ok (.tuple #[.agg #[.string x, .string y], tmps.getD 3 undef]) W := by
  have c0 := cel hb 0 (v := .string x) rfl
  have c1 := cel hb 1 (v := .string y) rfl
  have h3 : tmps[2]?.getD undef = .pointer (some ⟨k, 0, none⟩) := by rw [← h2]; simp
  simp [results, Tryz.f60, go_sem, h3, c0, c1]
def PartRes (w : World) (s : ByteArray) (e : Ending) (w' : World) : Prop :=
  ((∃ a, partA s = some a ∧ e = .returned (.tuple #[.agg #[.string a.1, .string a.2], .nilIface])) ∨ (partA s = none ∧ e = .returned (.tuple #[.agg #[.string ⟨#[]⟩, .string ⟨#[]⟩], .iface 46 (.agg #[.string s])]))) ∧ Below w.heap.size w w'
set_option maxRecDepth 100000 in
set_option maxHeartbeats 4000000 in
theorem part_calls (s : ByteArray) (hs : s.size ≤ 1000000) (w : World) (p : Nat → Addr) (hE : Env w p) :
    Calls Tryz.prog 60 #[.string s] w (PartRes w s) := by
  obtain ⟨m, hm⟩ := hE.ml
  have HE := Aside.mk hE
  clear hE
  obtain ⟨W0, hW0⟩ : ∃ W0, w.alloc (.cells #[.string ⟨#[]⟩, .string ⟨#[]⟩] 39) = W0 := ⟨_, rfl⟩
  have hb0 : Below w.heap.size w W0 := by rw [← hW0]; exact below_new _ _
  have hh0 : W0.heap[w.heap.size]? = some (.cells #[.string ⟨#[]⟩, .string ⟨#[]⟩] 39 (0, 0)) := by rw [← hW0]; exact World.alloc_heap_new _ _
  have HB0 := Aside.mk hb0
  have HH0 := Aside.mk hh0
  have HC := Aside.mk (Shelf.strings_Cut s ⟨#[61]⟩ m W0 (by omega) (cell_below hm hb0))
  clear hb0 hh0 hm
  have HLE := Aside.mk (cut_le s.data.toList [61])
  have HPA := Aside.mk (show partA s = if (Lib.cut s.data.toList [61]).2.2 then (Esc.readL true ⟨(Lib.cut s.data.toList [61]).2.1.toArray⟩).map fun v => (⟨(Lib.cut s.data.toList [61]).1.toArray⟩, ⟨v.toArray⟩) else none from rfl)
  have HSL := Aside.mk (Txt.size_list s)
  go_enter Tryz.func60, Tryz.ntmps60
  go_wp2_with fail
  clear hW0
  refine HC.out.mono ?_
  rintro e w1 ⟨rfl, n, rfl⟩
  generalize Lib.cut s.data.toList [61] = q at HLE HPA
  obtain ⟨nm, vl, ok⟩ := q
  have HB1 := Aside.mk (below_then HB0.out (below_drewN W0 n))
  have HH1 := Aside.mk (blk_below HH0.out (below_drewN W0 n))
  generalize W0.drewN n = W1 at HB1 HH1
  clear HC
  go_wp2_with fail
  refine (Esc.readName_calls ⟨vl.toArray⟩ (by rw [Txt.size_mk]; have := HLE.out; have := HSL.out; omega) W1 p (HE.out.below HB1.out)).mono ?_
  rintro e w2 ⟨rfl, hb⟩
  have HB2 := Aside.mk (below_then HB1.out hb)
  have HH2 := Aside.mk (blk_below HH1.out hb)
  clear hb
  have c0 := cel HH2.out 0 (v := .string ⟨#[]⟩) rfl
  have c1 := cel HH2.out 1 (v := .string ⟨#[]⟩) rfl
  have f0 := frz HH2.out 0
  have f1 := frz HH2.out 1
  cases ok with
  | false =>
    have HP := Aside.mk (show partA s = none from HPA.out)
    clear HPA
    go_wp2
    refine bodyPost_ret (part_out _ w.heap.size _ _ (set_blk (set_blk HH2.out 0 _) 1 _) _ rfl) rfl ?_
    exact ⟨.inr ⟨HP.out, rfl⟩, (HB2.out.setCell (p := ⟨w.heap.size, 0, none⟩) (Nat.le_refl _) _).setCell (p := ⟨w.heap.size, 1, none⟩) (Nat.le_refl _) _⟩
  | true =>
    cases hr : Esc.readL true ⟨vl.toArray⟩ with
    | none =>
      have HP := Aside.mk (show partA s = none by rw [HPA.out, hr]; rfl)
      have HT := Aside.mk (show Esc.readT true ⟨vl.toArray⟩ = [] by unfold Esc.readT; rw [hr]; rfl)
      have hC : Esc.readC true ⟨vl.toArray⟩ = 60 := by unfold Esc.readC; rw [hr]; rfl
      rw [hC]
      clear HPA hr hC
      go_wp2
      refine bodyPost_ret (part_out _ w.heap.size _ _ (set_blk (set_blk HH2.out 0 _) 1 _) _ rfl) rfl ?_
      exact ⟨.inr ⟨HP.out, rfl⟩, (HB2.out.setCell (p := ⟨w.heap.size, 0, none⟩) (Nat.le_refl _) _).setCell (p := ⟨w.heap.size, 1, none⟩) (Nat.le_refl _) _⟩
    | some v =>
      have HP := Aside.mk (show partA s = some (⟨nm.toArray⟩, ⟨v.toArray⟩) by rw [HPA.out, hr]; rfl)
      have hT : Esc.readT true ⟨vl.toArray⟩ = v := by unfold Esc.readT; rw [hr]; rfl
      have hC : Esc.readC true ⟨vl.toArray⟩ = 0 := by unfold Esc.readC; rw [hr]; rfl
      rw [hC, hT]
      clear HPA hr hC hT
      go_wp2
      refine bodyPost_ret (part_out _ w.heap.size _ _ (set_blk (set_blk HH2.out 0 _) 1 _) _ rfl) rfl ?_
      exact ⟨.inl ⟨_, HP.out, rfl⟩, (HB2.out.setCell (p := ⟨w.heap.size, 0, none⟩) (Nat.le_refl _) _).setCell (p := ⟨w.heap.size, 1, none⟩) (Nat.le_refl _) _⟩
end Go.Proofs.YtjmpkbmgcbalkaaGreatDoor.Dn
/- dn, plain: a printed part, read, is that part. -/
namespace Go.Proofs.YtjmpkbmgcbalkaaGreatDoor.Dn
open Go.Lib
set_option linter.unusedVariables false
theorem index_here (c : UInt8) (y : List UInt8) : ∀ x : List UInt8, c ∉ x → index (x ++ c :: y) [c] = (x.length : Int)
  | [], _ => by rw [List.nil_append, Txt.index_cons, if_pos rfl]; rfl
  | b :: t, h => by
    have h1 : b ≠ c := fun e => h (by simp [e])
    have h2 : c ∉ t := fun e => h (by simp [e])
    rw [List.cons_append, Txt.index_cons, if_neg h1, index_here c y t h2, if_neg (by omega), List.length_cons]
    omega
theorem cut_here (c : UInt8) (x y : List UInt8) (h : c ∉ x) : Lib.cut (x ++ c :: y) [c] = (x, y, true) := by
  unfold Lib.cut
  rw [index_here c y x h, if_pos (by omega)]
  have e : ((x.length : Int)).toNat = x.length := by omega
  rw [e, List.length_singleton, List.take_left' rfl]
  have : List.drop (x.length + 1) (x ++ c :: y) = y := by
    rw [List.drop_append, List.drop_eq_nil_of_le (by omega), show x.length + 1 - x.length = 1 by omega]; rfl
  rw [this]
/-- a byte of a type -/
def typeByte (b : UInt8) : Bool := letter b || digit b || decide (b.toNat = 45) || decide (b.toNat = 46)
theorem split_bytes (c : UInt8) (P : UInt8 → Bool) : ∀ l : List UInt8, (∀ z ∈ Txt.splitOn c l, z.all P = true) → ∀ b ∈ l, b = c ∨ P b = true
  | [], _, b, hb => by cases hb
  | x :: t, h, b, hb => by
    rw [Txt.splitOn] at h
    by_cases hx : x = c
    · rw [if_pos hx] at h
      rcases List.mem_cons.1 hb with rfl | hb
      · exact .inl hx
      · exact split_bytes c P t (fun z hz => h z (by simp [hz])) b hb
    · rw [if_neg hx] at h
      cases hs : Txt.splitOn c t with
      | nil => exact absurd hs (Txt.splitOn_ne c t)
      | cons z r =>
        rw [hs] at h
        have h1 := h (x :: z) (by simp)
        simp only [List.all_cons, Bool.and_eq_true] at h1
        rcases List.mem_cons.1 hb with rfl | hb
        · exact .inr h1.1
        · refine split_bytes c P t (fun q hq => ?_) b hb
          rw [hs] at hq
          rcases List.mem_cons.1 hq with rfl | hq
          · exact h1.2
          · exact h q (by simp [hq])
theorem type_bytes (l : List UInt8) (h : typeB l = true) : ∀ b ∈ l, typeByte b = true := by
  unfold typeB at h
  simp only [Bool.and_eq_true, Bool.or_eq_true] at h
  rcases h.2 with h1 | h1
  · intro b hb
    cases l with
    | nil => cases hb
    | cons c t =>
      simp only [keyB, Bool.and_eq_true] at h1
      rcases List.mem_cons.1 hb with rfl | hb
      · simp [typeByte, h1.1]
      · have := List.all_eq_true.1 h1.2 b hb
        simp only [keyRest, Bool.or_eq_true] at this
        simp only [typeByte, Bool.or_eq_true]
        exact .inl this
  · intro b hb
    have := split_bytes 46 digit l (fun z hz => by
      have := List.all_eq_true.1 h1.2 z hz
      unfold numB at this
      simp only [Bool.and_eq_true] at this
      exact this.2.1) b hb
    rcases this with rfl | h2
    · decide
    · simp [typeByte, h2]
theorem typeByte_ne (b : UInt8) (h : typeByte b = true) : b ≠ 92 ∧ b ≠ 61 ∧ b ≠ 44 ∧ b ≠ 43 := by
  refine ⟨?_, ?_, ?_, ?_⟩ <;> (rintro rfl; exact absurd h (by decide))
/-- a part's text -/
def avaL (a : Ava) : List UInt8 := a.1.data.toList ++ 61 :: Esc.outF (Esc.nameR a.2.size) 0 a.2.data.toList
theorem closed_all (c : UInt8) : ∀ l : List UInt8, (∀ b ∈ l, b ≠ 92 ∧ b ≠ c) → closedL c l = true
  | [], _ => rfl
  | b :: t, h => by rw [closed_other c b (h b (by simp)).1 (h b (by simp)).2]; exact closed_all c t (fun x hx => h x (by simp [hx]))
theorem ava_closed (c : UInt8) (hc : c = 44 ∨ c = 43) (a : Ava) (ha : typeB a.1.data.toList = true) : closedL c (avaL a) = true := by
  unfold avaL
  rw [closed_append]
  · rw [closed_other c 61 (by decide) (by rcases hc with rfl | rfl <;> decide)]
    exact outF_closed c (by rcases hc with rfl | rfl <;> decide) _ _ _
  · refine closed_all c _ (fun b hb => ?_)
    have := typeByte_ne b (type_bytes _ ha b hb)
    rcases hc with rfl | rfl
    · exact ⟨this.1, this.2.2.1⟩
    · exact ⟨this.1, this.2.2.2⟩
theorem part_printed (a : Ava) (ha : typeB a.1.data.toList = true) : partA ⟨(avaL a).toArray⟩ = some a := by
  have hn : (61 : UInt8) ∉ a.1.data.toList := fun h => (typeByte_ne 61 (type_bytes _ ha 61 h)).2.1 rfl
  have hc : Lib.cut (avaL a) [61] = (a.1.data.toList, Esc.outF (Esc.nameR a.2.size) 0 a.2.data.toList, true) := cut_here 61 _ _ hn
  have hr := read_printed a.2.data.toList
  rw [Txt.size_list] at hr
  unfold partA
  show (if (Lib.cut (avaL a) [61]).2.2 = true then (Esc.readL true ⟨(Lib.cut (avaL a) [61]).2.1.toArray⟩).map (fun v => ((⟨(Lib.cut (avaL a) [61]).1.toArray⟩, ⟨v.toArray⟩) : Ava)) else none) = some a
  rw [hc]
  simp only [if_true, hr, Option.map_some]
end Go.Proofs.YtjmpkbmgcbalkaaGreatDoor.Dn
/- dn, plain: what a text says as a name; a right name, printed and read, is itself. -/
namespace Go.Proofs.YtjmpkbmgcbalkaaGreatDoor.Dn
set_option linter.unusedVariables false
/-- all, or none -/
def allM {α β : Type} (f : α → Option β) : List α → Option (List β)
  | [] => some []
  | a :: t => match f a with
    | none => none
    | some b => (allM f t).map (b :: ·)
theorem allM_map {α β : Type} (f : α → Option β) (g : β → α) : ∀ l : List β, (∀ b ∈ l, f (g b) = some b) → allM f (l.map g) = some l
  | [], _ => rfl
  | b :: t, h => by
    rw [List.map_cons, allM, h b (by simp), allM_map f g t (fun x hx => h x (by simp [hx]))]
    rfl
def rdnOf (p : List UInt8) : Option Rdn := allM (fun q => partA ⟨q.toArray⟩) (piecesL 43 p)
def nameOf (s : List UInt8) : Option Name := allM rdnOf (piecesL 44 s)
/-- what a text says -/
def parsedL (s : List UInt8) : Option Name := if s = [] then some [] else (nameOf s).bind fun d => if rightB d then some d else none
def rdnL (r : Rdn) : List UInt8 := joinC 43 (r.map avaL)
def nameL (d : Name) : List UInt8 := joinC 44 (d.map rdnL)
theorem join_closed (c k : UInt8) (hk : k ≠ 92) (hkc : k ≠ c) : ∀ l : List (List UInt8), (∀ x ∈ l, closedL c x = true) → closedL c (joinC k l) = true
  | [], _ => rfl
  | [x], h => h x (by simp)
  | x :: y :: t, h => by
    rw [joinC, closed_append c x _ (h x (by simp)), closed_other c k hk hkc]
    exact join_closed c k hk hkc (y :: t) (fun z hz => h z (by simp at hz ⊢; exact .inr hz))
theorem rdn_read (r : Rdn) (hne : r ≠ []) (h : ∀ a ∈ r, typeB a.1.data.toList = true) : rdnOf (rdnL r) = some r := by
  unfold rdnOf rdnL
  rw [pieces_join 43 (by decide) (r.map avaL) (by simpa using hne) (by
    intro x hx
    obtain ⟨a, ha, rfl⟩ := List.mem_map.1 hx
    exact ava_closed 43 (.inr rfl) a (h a ha))]
  exact allM_map (fun q => partA ⟨q.toArray⟩) avaL r (fun a ha => part_printed a (h a ha))
theorem rdn_closed (r : Rdn) (h : ∀ a ∈ r, typeB a.1.data.toList = true) : closedL 44 (rdnL r) = true := by
  refine join_closed 44 43 (by decide) (by decide) _ (fun x hx => ?_)
  obtain ⟨a, ha, rfl⟩ := List.mem_map.1 hx
  exact ava_closed 44 (.inl rfl) a (h a ha)
theorem name_read (d : Name) (hne : d ≠ []) (h : ∀ r ∈ d, r ≠ [] ∧ ∀ a ∈ r, typeB a.1.data.toList = true) : nameOf (nameL d) = some d := by
  unfold nameOf nameL
  rw [pieces_join 44 (by decide) (d.map rdnL) (by simpa using hne) (by
    intro x hx
    obtain ⟨r, hr, rfl⟩ := List.mem_map.1 hx
    exact rdn_closed r (h r hr).2)]
  exact allM_map rdnOf rdnL d (fun r hr => rdn_read r (h r hr).1 (h r hr).2)
theorem ava_ne (a : Ava) : avaL a ≠ [] := by unfold avaL; simp
theorem join_ne (c : UInt8) (l : List (List UInt8)) (hne : l ≠ []) (h : ∀ x ∈ l, x ≠ []) : joinC c l ≠ [] := by
  match l, hne, h with
  | [x], _, h => exact h x (by simp)
  | x :: y :: t, _, h => rw [joinC]; simp
theorem name_ne (d : Name) (hne : d ≠ []) (h : ∀ r ∈ d, r ≠ []) : nameL d ≠ [] := by
  refine join_ne 44 _ (by simpa using hne) (fun x hx => ?_)
  obtain ⟨r, hr, rfl⟩ := List.mem_map.1 hx
  refine join_ne 43 _ (by simpa using h r hr) (fun y hy => ?_)
  obtain ⟨a, _, rfl⟩ := List.mem_map.1 hy
  exact ava_ne a
theorem right_parts (d : Name) (h : rightB d = true) : ∀ r ∈ d, r ≠ [] ∧ ∀ a ∈ r, typeB a.1.data.toList = true := by
  intro r hr
  unfold rightB at h
  simp only [Bool.and_eq_true] at h
  have h2 := List.all_eq_true.1 h.2 r hr
  unfold rdnB at h2
  simp only [Bool.and_eq_true, decide_eq_true_eq] at h2
  refine ⟨fun e => by rw [e] at h2; simp at h2, fun a ha => ?_⟩
  have h3 := List.all_eq_true.1 h2.2.2 a ha
  unfold avaB at h3
  simp only [Bool.and_eq_true] at h3
  exact h3.1
/-- A RIGHT NAME, PRINTED AND READ, IS ITSELF. -/
theorem parse_print (d : Name) (h : rightB d = true) : parsedL (nameL d) = some d := by
  have hp := right_parts d h
  unfold parsedL
  by_cases hd : d = []
  · subst hd; rfl
  · rw [if_neg (name_ne d hd (fun r hr => (hp r hr).1)), name_read d hd hp]
    simp [h]
theorem parsed_right (s : List UInt8) (d : Name) (h : parsedL s = some d) : rightB d = true := by
  unfold parsedL at h
  split at h
  · cases h; rfl
  · cases hn : nameOf s with
    | none => rw [hn] at h; cases h
    | some e =>
      rw [hn] at h
      simp only [Option.bind_some] at h
      split at h
      · cases h; assumption
      · cases h
end Go.Proofs.YtjmpkbmgcbalkaaGreatDoor.Dn
/- Contracts of functions of Go's library, as the kit's shelf proves them of whatever program, at this program's numbers. Each states its own conditions. -/
namespace Go.Proofs.YtjmpkbmgcbalkaaGreatDoor
open Go.Shelf
def Shelf.Laysn156_ren : Go.Shelf.Ren := ⟨fun | 156 => 56 | 165 => 80 | 166 => 72 | 169 => 73 | 240 => 92 | 241 => 95 | 276 => 108 | 277 => 109 | n => n, fun | 0 => 0 | 3 => 3 | 4 => 4 | 5 => 5 | 9 => 9 | 20 => 20 | 31 => 52 | 37 => 68 | 70 => 90 | 72 => 92 | 75 => 49 | 76 => 98 | 80 => 100 | 127 => 124 | 164 => 105 | n => n, fun  | n => n⟩
theorem Shelf.Laysn156 : Go.Proofs.Lays.n156 Tryz.prog Shelf.Laysn156_ren := {
  mixed := by kernel_rfl
  f156 := Tryz.func56.trans (congrArg some (by kernel_rfl))
  f165 := Tryz.func80.trans (congrArg some (by kernel_rfl))
  f166 := Tryz.func72.trans (congrArg some (by kernel_rfl))
  f169 := Tryz.func73.trans (congrArg some (by kernel_rfl))
  f240 := Tryz.func92.trans (congrArg some (by kernel_rfl))
  f241 := Tryz.func95.trans (congrArg some (by kernel_rfl))
  f276 := Tryz.func108.trans (congrArg some (by kernel_rfl))
  f277 := Tryz.func109.trans (congrArg some (by kernel_rfl))
  t0 := Tryz.underlying0
  a0 := Tryz.isAgg0
  z0 := Tryz.sizeOf0
  v0 := Tryz.zeroValue0
  t3 := Tryz.underlying3
  a3 := Tryz.isAgg3
  z3 := Tryz.sizeOf3
  v3 := Tryz.zeroValue3
  t4 := Tryz.underlying4
  a4 := Tryz.isAgg4
  z4 := Tryz.sizeOf4
  v4 := Tryz.zeroValue4
  t9 := Tryz.underlying9
  a9 := Tryz.isAgg9
  z9 := Tryz.sizeOf9
  v9 := Tryz.zeroValue9
  t20 := Tryz.underlying20
  a20 := Tryz.isAgg20
  z20 := Tryz.sizeOf20
  v20 := Tryz.zeroValue20
  t31 := Tryz.underlying52
  a31 := Tryz.isAgg52
  z31 := Tryz.sizeOf52
  v31 := Tryz.zeroValue52
  t37 := Tryz.underlying68
  a37 := Tryz.isAgg68
  z37 := Tryz.sizeOf68
  v37 := Tryz.zeroValue68
  t70 := Tryz.underlying90
  a70 := Tryz.isAgg90
  z70 := Tryz.sizeOf90
  v70 := Tryz.zeroValue90
  t72 := Tryz.underlying92
  a72 := Tryz.isAgg92
  z72 := Tryz.sizeOf92
  v72 := Tryz.zeroValue92
  t75 := Tryz.underlying49
  a75 := Tryz.isAgg49
  z75 := Tryz.sizeOf49
  v75 := Tryz.zeroValue49
  t76 := Tryz.underlying98
  a76 := Tryz.isAgg98
  z76 := Tryz.sizeOf98
  v76 := Tryz.zeroValue98
  t127 := Tryz.underlying124
  a127 := Tryz.isAgg124
  z127 := Tryz.sizeOf124
  v127 := Tryz.zeroValue124
  t164 := Tryz.underlying105
  a164 := Tryz.isAgg105
  z164 := Tryz.sizeOf105
  v164 := Tryz.zeroValue105 }
theorem Shelf.Builder_Extra_Laysn156 : Builder.Extra Tryz.prog Shelf.Laysn156_ren := {
  sizeBuilder := by kernel_rfl
  liesBuilder := by kernel_rfl
  t5 := Tryz.underlying5
  a5 := Tryz.isAgg5
  z5 := Tryz.sizeOf5
  v5 := Tryz.zeroValue5
  infoByte := by kernel_rfl
  cellsByte := by kernel_rfl
  sizeByte := by kernel_rfl
  neB5 := by decide }
open Go.RowKit in
theorem Shelf.strings_Join_none  (a : Option Addr) (c : Nat) (sep : ByteArray) (w : World) :
    Calls Tryz.prog 56 #[.slice a 0 c, .string sep] w fun e w' => e = .returned (.string ⟨#[]⟩) ∧ w' = w := Any.strings_Join_none Shelf.Laysn156 Shelf.Builder_Extra_Laysn156 a c sep w
open Go.RowKit in
theorem Shelf.strings_Join  (bk o c : Nat) (xs : List ByteArray) (sep : ByteArray) (w : World) (hcells : ∀ (j : Nat) x, xs[j]? = some x → w.cell? ⟨bk, o + j, none⟩ = some (.string x)) (hbk : bk < w.heap.size) (hN : xs.length ≤ 140737488355328) (hcap : xs.length ≤ c) (hlen : (Lib.join (xs.map (·.data.toList)) sep.data.toList).length ≤ 140737488355328) :
    Calls Tryz.prog 56 #[.slice (some ⟨bk, o, none⟩) xs.length c, .string sep] w fun e w' => e = .returned (.string ⟨(Lib.join (xs.map (·.data.toList)) sep.data.toList).toArray⟩) ∧ Below w.heap.size w w' := Any.strings_Join Shelf.Laysn156 Shelf.Builder_Extra_Laysn156 bk o c xs sep w hcells hbk hN hcap hlen
end Go.Proofs.YtjmpkbmgcbalkaaGreatDoor
