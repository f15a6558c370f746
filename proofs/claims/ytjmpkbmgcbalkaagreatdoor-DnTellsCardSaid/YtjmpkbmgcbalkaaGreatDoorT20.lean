/- Several texts, one behind the other. utf.Right: a text's check (a loop over signs without a body), and what it answers. Conditions: the decoder's tables are laid; at most 10^9 bytes. esc's reader: read. Conditions: the shape of memory that each theorem names; at most 10^6 bytes. esc.ReadName, esc.ReadFilter: values of texts. Conditions: at most 10^6 bytes; the package-level variables of Env. latinerref05 and latinerref06, walked: digits of bytes, bytes of digits, a value's text as a name's, and its value again. Conditions: texts of at most 10^6 bytes. latinerref06, walked: a value's text as a name's, and its value again. Conditions: texts of at most 10^6 bytes. -/
import Derived.Test.YtjmpkbmgcbalkaaGreatDoorT10
import Derived.Test.YtjmpkbmgcbalkaaGreatDoorT11
import Derived.Test.YtjmpkbmgcbalkaaGreatDoorT19
import Derived.Test.YtjmpkbmgcbalkaaGreatDoorT12
/- utf.Right: a text's check (a loop over signs without a body), and what it answers. Conditions: the decoder's tables are laid; at most 10^9 bytes. -/
namespace Go.Proofs.YtjmpkbmgcbalkaaGreatDoor.Utf
open Go.RowKit Go.Lib
set_option linter.unusedVariables false
attribute [local go_sem] Oper.semAt_some
theorem signs_maker (s : ByteArray) (E : Addr) (w : World) :
    Calls Tryz.prog 128 #[.agg #[.string s], .pointer (some E)] w fun e w' => e = .returned (.func (.func 132) #[] #[.pointer (some ⟨w.heap.size, 0, none⟩), .pointer (some ⟨w.heap.size + 1, 0, none⟩)]) ∧ (w.alloc (.cells #[.string s] 170)).alloc (.cells #[.pointer (some E)] 179) = w' := by
  go_enter Tryz.func128, Tryz.ntmps128
  go_wp2
  go_ret
  exact ⟨by simp, rfl⟩
/-- what holds between two rounds -/
structure Jt (rc : Rng.Rec) (D Tx Ex Eb : Nat) (s : ByteArray) (w W : World) : Prop where
  d : W.heap[D]? = some (.deferred (some []))
  l : W.heap[D + 1]? = some (rc.at .ready none)
  t : W.heap[Tx]? = some (.cells #[.string s] 170 (0, 0))
  x : W.heap[Ex]? = some (.cells #[.pointer (some ⟨Eb, 0, none⟩)] 179 (0, 0))
  e : W.heap[Eb]? = some (.cells #[.nilIface] 49 (0, 0))
  b : Below w.heap.size w W
  z : D + 2 ≤ W.heap.size
theorem Jt.step {rc : Rng.Rec} {D Tx Ex Eb : Nat} {s : ByteArray} {w W W' : World} (h : Jt rc D Tx Ex Eb s w W) (ht : Tx < D) (hx : Ex < D) (he : Eb < D) (hw : w.heap.size ≤ D) (hb : Below (D + 2) W W') : Jt rc D Tx Ex Eb s w W' where
  d := (hb.block D (by omega)).trans h.d
  l := (hb.block (D + 1) (by omega)).trans h.l
  t := (hb.block Tx (by omega)).trans h.t
  x := (hb.block Ex (by omega)).trans h.x
  e := (hb.block Eb (by omega)).trans h.e
  b := h.b.trans (hb.mono (by omega))
  z := Nat.le_trans h.z hb.size
/-- what a check answers -/
def ChkRes (w : World) (s : ByteArray) (e : Ending) (w' : World) : Prop :=
  ((utfB s = true ∧ e = .returned .nilIface) ∨ (utfB s = false ∧ ∃ n : Int, e = .returned (.iface 183 (.agg #[.int .i64 n])))) ∧ Below w.heap.size w w'
set_option maxRecDepth 100000 in
set_option maxHeartbeats 4000000 in
theorem check_calls (s : ByteArray) (hs : s.size ≤ 1000000000) (w : World) (hu : Lib.Utf8Tabs 4 5 w) :
    Calls Tryz.prog 122 #[.agg #[.string s]] w (ChkRes w s) := by
  refine Rng.calls_of_marks (n := 1) Tryz.func122 rfl ?_
  simp only [Tryz.ntmps122, List.size_toArray, List.length_cons, List.length_nil, Nat.reduceAdd, Nat.reduceSub, Array.replicate_succ, Array.replicate_zero, List.push_toArray, List.append_toArray, List.nil_append, List.cons_append]
  go_wp2_with fail
  have hb2 : Below w.heap.size w ((w.alloc (.cells #[.string s] 172)).alloc (.cells #[.nilIface] 49)) := below_then (below_new _ _) (below_new _ _)
  have h2e : ((w.alloc (.cells #[.string s] 172)).alloc (.cells #[.nilIface] 49)).heap[w.heap.size + 1]? = some (.cells #[.nilIface] 49 (0, 0)) := by
    have := World.alloc_heap_new (w.alloc (.cells #[.string s] 172)) (.cells #[.nilIface] 49)
    rwa [World.size_alloc] at this
  have h2s : ((w.alloc (.cells #[.string s] 172)).alloc (.cells #[.nilIface] 49)).heap.size = w.heap.size + 2 := by simp
  generalize ((w.alloc (.cells #[.string s] 172)).alloc (.cells #[.nilIface] 49)) = W2 at hb2 h2e h2s ⊢
  have H2 := Aside.mk (And.intro hb2 (And.intro h2e h2s))
  clear hb2 h2e h2s
  refine (signs_maker s _ _).mono ?_
  rintro e w3 ⟨rfl, h3⟩
  have h3b : Below W2.heap.size W2 w3 := by rw [← h3]; exact below_then (below_new _ _) (below_new _ _)
  have h3t : w3.heap[W2.heap.size]? = some (.cells #[.string s] 170 (0, 0)) := by rw [← h3]; exact blk_below (World.alloc_heap_new W2 _) (below_new _ _)
  have h3x : w3.heap[W2.heap.size + 1]? = some (.cells #[.pointer (some ⟨w.heap.size + 1, 0, none⟩)] 179 (0, 0)) := by
    rw [← h3]
    have := World.alloc_heap_new (W2.alloc (.cells #[.string s] 170)) (.cells #[.pointer (some ⟨w.heap.size + 1, 0, none⟩)] 179)
    rwa [World.size_alloc] at this
  have h3s : w3.heap.size = W2.heap.size + 2 := by rw [← h3]; simp
  have H3 := Aside.mk (And.intro h3b (And.intro h3t (And.intro h3x h3s)))
  clear h3 h3b h3t h3x h3s
  go_wp2_with fail
  refine Rng.wp_range (n := 1) (gf := 132) (lb := #[.pointer (some ⟨W2.heap.size, 0, none⟩), .pointer (some ⟨W2.heap.size + 1, 0, none⟩)]) rfl (enters_of Tryz.func132 (by kernel_rfl) rfl) ?_
  intro fn
  generalize hrec : (Rng.Rec.mk fn _ _ _ _ _) = rc
  obtain ⟨W1, hW1⟩ : ∃ W1, W1 = (w3.alloc (.deferred (some []))).alloc (rc.at .ready none) := ⟨_, rfl⟩
  rw [← hW1]
  have hD := World.alloc_heap_new w3 (.deferred (some []))
  have hL := World.alloc_heap_new (w3.alloc (.deferred (some []))) (rc.at .ready none)
  have hD1 := blk_below hD (below_new _ (rc.at .ready none))
  have hbW : Below w3.heap.size w3 W1 := by rw [hW1]; exact below_then (below_new _ _) (below_new _ _)
  have hWs : W1.heap.size = w3.heap.size + 2 := by rw [hW1]; simp
  rw [World.size_alloc] at hL
  rw [← hW1] at hL hD1
  clear hW1 hD
  obtain ⟨hb2, h2e, h2s⟩ := H2.out
  obtain ⟨h3b, h3t, h3x, h3s⟩ := H3.out
  have hb23 := below_then h3b hbW
  have hTD : W2.heap.size < w3.heap.size := by omega
  have hXD : W2.heap.size + 1 < w3.heap.size := by omega
  have hED : w.heap.size + 1 < w3.heap.size := by omega
  have hwD : w.heap.size ≤ w3.heap.size := by omega
  have hEw : w.heap.size ≤ w.heap.size + 1 := by omega
  have hj0 : Jt rc w3.heap.size W2.heap.size (W2.heap.size + 1) (w.heap.size + 1) s w W1 := ⟨hD1, hL, blk_below h3t hbW, blk_below h3x hbW, blk_below h2e hb23, below_then hb2 hb23, by omega⟩
  have hfz : ∀ (W : World) (k : Nat) (cs : Array Value) (t : TypeId), W.heap[k]? = some (.cells cs t (0, 0)) → W.frozen? ⟨k, 0, none⟩ = false := fun W k cs t h => frz h 0
  clear h2s h3s hD1 hL
  refine (signs_iter (l0 := w3.heap.size + 1) (Tx := W2.heap.size) (Ex := W2.heap.size + 1) (K := w3.heap.size + 2) (E := ⟨w.heap.size + 1, 0, none⟩) hs (Jt rc w3.heap.size W2.heap.size (W2.heap.size + 1) (w.heap.size + 1) s w)
    (fun W h => cel h.t 0 rfl) (fun W h => cel h.x 0 rfl) (fun W h => ⟨_, cel h.e 0 rfl⟩) (fun W h => hfz _ _ _ _ h.e) (fun W h => tabs_below hu h.b) (fun W W' h hb => h.step hTD hXD hED hwD hb) (fun W h => h.z) ?_ W1 hj0 hWs).mono ?_
  · intro k r W hJ
    have ea := congrArg Rng.Rec.assign hrec
    have eb := congrArg Rng.Rec.body hrec
    have ep := congrArg Rng.Rec.params hrec
    have et := congrArg Rng.Rec.tmps hrec
    dsimp only at ea eb ep et
    refine ⟨rc.fn, _, _, _, run_yield (P := Tryz.prog) hJ.l (by rw [← ep]; rfl), Rng.round hJ.l ?_⟩
    rw [← ea, ← eb, ← ep, ← et]
    clear ea eb ep et hrec
    gi_wp2
    refine ⟨hJ.l, ?_⟩
    have hLb : (W.putObj (w3.heap.size + 1) (rc.at .busy none)).heap[w3.heap.size + 1]? = some (rc.at .busy none) := World.putObj_heap_same (Array.getElem?_eq_some_iff.1 hJ.l).1
    have hu := putObj_upd W (w3.heap.size + 1) (rc.at .busy none)
    gi_wp2
    have hu2 := putObj_upd (W.putObj (w3.heap.size + 1) (rc.at .busy none)) (w3.heap.size + 1) (rc.at .ready none)
    refine ⟨⟨hu2.blk (hu.blk hJ.d (by omega)) (by omega), World.putObj_heap_same (Array.getElem?_eq_some_iff.1 hLb).1, hu2.blk (hu.blk hJ.t (by omega)) (by omega), hu2.blk (hu.blk hJ.x (by omega)) (by omega), hu2.blk (hu.blk hJ.e (by omega)) (by omega), Upd.to_below (Upd.to_below hJ.b hu (by rintro k rfl; omega)) hu2 (by rintro k rfl; omega), by have := hJ.z; simpa [World.putObj] using this⟩, ?_⟩
    intro j hj
    simp only [World.putObj, Array.getElem?_setIfInBounds, Array.size_setIfInBounds]
    rw [if_neg (by omega), if_neg (by omega)]
  · rintro e W5 ⟨⟨v5, rfl⟩, hJ5⟩
    have key : ∃ ev, W5.heap[w3.heap.size]? = some (.deferred (some [])) ∧ W5.heap[w3.heap.size + 1]? = some (rc.at .ready none) ∧ W5.heap[w.heap.size + 1]? = some (.cells #[ev] 49 (0, 0)) ∧ Below w.heap.size w W5 ∧ ((utfB s = true ∧ ev = .nilIface) ∨ (utfB s = false ∧ ∃ n : Int, ev = .iface 183 (.agg #[.int .i64 n]))) := by
      rcases hJ5 with ⟨hq, hj⟩ | ⟨hq, n, W4, hj, rfl⟩
      · exact ⟨_, hj.d, hj.l, hj.e, hj.b, .inl ⟨hq, rfl⟩⟩
      · have hs4 := Upd.of_grown (S := fun k => k = w.heap.size + 1) (set_grown W4 (w.heap.size + 1) 0 (.iface 183 (.agg #[.int .i64 n]))) rfl
        exact ⟨_, hs4.blk hj.d (by omega), hs4.blk hj.l (by omega), set_blk hj.e 0 _, hj.b.setCell (p := ⟨w.heap.size + 1, 0, none⟩) hEw _, .inr ⟨hq, n, rfl⟩⟩
    obtain ⟨ev, a1, a2, a3, a5, a6⟩ := key
    refine ⟨⟨_, rfl⟩, .ready, none, by simp, a2, ?_⟩
    dsimp only
    have hu := putObj_upd W5 (w3.heap.size + 1) (rc.at .exhausted none)
    obtain ⟨WB, hWB⟩ : ∃ WB, WB = W5.putObj (w3.heap.size + 1) (rc.at .exhausted none) := ⟨_, rfl⟩
    rw [← hWB] at hu ⊢
    clear hWB hrec hJ5
    have A1 := Aside.mk (hu.blk a1 (by omega))
    have A5 := Aside.mk (Upd.to_below a5 hu (by rintro k rfl; omega))
    have c0 : WB.cell? ⟨w.heap.size + 1, 0, none⟩ = some ev := cel (hu.blk a3 (by omega)) 0 rfl
    have A6 := Aside.mk a6
    clear a1 a2 a3 a5 a6 hu hbW hb23 hj0
    go_wp2
    refine ⟨by simp, .inl ⟨_, _, rfl, run_takeDeferred A1.out, ?_⟩⟩
    have hu8 := putObj_upd WB w3.heap.size (.deferred none)
    refine ⟨ev, by simp [results, Tryz.f122, go_sem], ?_, Upd.to_below A5.out hu8 (by rintro k rfl; omega)⟩
    rcases A6.out with ⟨hq, rfl⟩ | ⟨hq, n, rfl⟩
    · exact .inl ⟨hq, rfl⟩
    · exact .inr ⟨hq, n, rfl⟩
set_option maxRecDepth 100000 in
theorem right_calls (s : ByteArray) (hs : s.size ≤ 1000000000) (w : World) (hu : Lib.Utf8Tabs 4 5 w) :
    Calls Tryz.prog 117 #[.string s] w fun e w' => e = .returned (.bool (utfB s)) ∧ Below w.heap.size w w' := by
  have HC := Aside.mk (check_calls s hs w hu)
  clear hu
  go_enter Tryz.func117, Tryz.ntmps117
  go_wp2_with fail
  refine HC.out.mono ?_
  rintro e w1 ⟨hc, hb⟩
  rcases hc with ⟨hq, rfl⟩ | ⟨hq, n, rfl⟩
  all_goals
    have HQ := Aside.mk hq
    clear hq
    go_wp2
    go_ret
    exact ⟨by rw [HQ.out]; rfl, hb⟩
end Go.Proofs.YtjmpkbmgcbalkaaGreatDoor.Utf
/- esc's reader: read. Conditions: the shape of memory that each theorem names; at most 10^6 bytes. -/
namespace Go.Proofs.YtjmpkbmgcbalkaaGreatDoor.Esc
open Go.RowKit
set_option linter.unusedVariables false
/-- what is read from a place on, behind what has been read -/
def readR (nm : Bool) (s : ByteArray) : Nat → Nat → List UInt8 → Option (List UInt8)
  | 0, _, l => some l
  | f + 1, k, l => if h : k < s.size then
      (if s[k] == 92 then (match signAt nm s (k + 1) with
        | some (z, a) => readR nm s f a (l ++ [z])
        | none => none)
      else if barB nm s.size k s[k] then none else readR nm s f (k + 1) (l ++ [s[k]]))
    else some l
/-- what a value's text says -/
def readL (nm : Bool) (s : ByteArray) : Option (List UInt8) := if !(Utf.utfB s) || s.data.toList.contains 0 then none else readR nm s s.size 0 []
def RdRes (w0 : World) (B : Nat) (s : ByteArray) (nm : Bool) (e : Ending) (w' : World) : Prop :=
  (∃ l a, readL nm s = some l ∧ e = .returned .nilIface ∧ RD w' B s a nm l ∧ l.length ≤ s.size ∧ Below w0.heap.size w0 w') ∨ (readL nm s = none ∧ (∃ n : Int, e = .returned (.iface 161 (.agg #[.int .i64 n]))) ∧ Below w0.heap.size w0 w')
theorem contains0 (s : ByteArray) (w : World) : Calls Tryz.prog 118 #[.string s, .int .i32 0] w fun e w' => e = .returned (.bool (s.data.toList.contains 0)) ∧ Below w.heap.size w w' := by
  refine (Shelf.strings_ContainsRune_ascii s 0 w (by decide) (by decide)).mono ?_
  rintro e w' ⟨rfl, rfl⟩
  exact ⟨by rw [Txt.index_mem]; rfl, Below.refl _ _⟩
theorem sgn_shape {w0 : World} {B : Nat} {s : ByteArray} {at_ : Nat} {nm : Bool} {l : List UInt8} {e : Ending} {w' : World} (h : SgnRes w0 B s at_ nm l e w') : ∃ v, e = .returned v := by
  rcases h with ⟨z, a, h1, h2, _⟩ | ⟨h1, ⟨n, h2⟩, h3⟩
  · exact ⟨_, h2⟩
  · exact ⟨_, h2⟩
set_option maxRecDepth 100000 in
set_option maxHeartbeats 8000000 in
theorem read_calls {w0 w : World} {B : Nat} {s : ByteArray} {nm : Bool} {p : Nat → Addr} (h : RD w B s 0 nm []) (hE : Env w0 p) (h0 : Below w0.heap.size w0 w) (hB0 : w0.heap.size ≤ B) (hs : s.size ≤ 1000000) :
    Calls Tryz.prog 110 #[.pointer (some ⟨B, 0, none⟩)] w (RdRes w0 B s nm) := by
  have HR := Aside.mk h
  have H0 := Aside.mk h0
  have HE := Aside.mk hE
  obtain ⟨p', v, hb, _⟩ := h
  have c0 := cel hb 0 (v := .string s) rfl
  have hB : B < w.heap.size := (Array.getElem?_eq_some_iff.1 hb).1
  clear hb h0 hE
  go_enter Tryz.func110, Tryz.ntmps110
  go_wp2_with fail
  refine (Utf.right_calls s (by omega) w (HE.out.below H0.out).ut).mono ?_
  rintro e w1 ⟨rfl, hb1⟩
  have HR1 := Aside.mk (HR.out.below hb1)
  have HB1 := Aside.mk (below_then H0.out hb1)
  have c1 := cell_below c0 hb1
  clear hb1 c0
  cases hu : Utf.utfB s with
  | false =>
    have HL := Aside.mk (show readL nm s = none by unfold readL; rw [hu]; rfl)
    clear hu
    go_wp2
    go_ret
    exact .inr ⟨HL.out, ⟨_, rfl⟩, HB1.out⟩
  | true =>
    have HU := Aside.mk hu
    clear hu
    go_wp2_with fail
    refine (contains0 s w1).mono ?_
    rintro e w2 ⟨rfl, hb2⟩
    have HR2 := Aside.mk (HR1.out.below hb2)
    have HB2 := Aside.mk (below_then HB1.out hb2)
    clear hb2 c1
    cases hz : s.data.toList.contains 0 with
    | true =>
      have HL := Aside.mk (show readL nm s = none by unfold readL; rw [hz, HU.out]; rfl)
      clear hz
      go_wp2
      go_ret
      exact .inr ⟨HL.out, ⟨_, rfl⟩, HB2.out⟩
    | false =>
      have HL := Aside.mk (show readL nm s = readR nm s s.size 0 [] by unfold readL; rw [hz, HU.out]; rfl)
      clear hz
      go_wp2_with fail
      go_loopg [] s.size (fun gk wr => Aside (∃ k l, RD wr B s k nm l ∧ Below w0.heap.size w0 wr ∧ k ≤ s.size ∧ s.size ≤ k + gk ∧ readR nm s gk k l = readL nm s ∧ l.length ≤ k))
      case atStart => exact ⟨⟨0, [], HR2.out, HB2.out, by omega, by omega, HL.out.symm, by simp⟩⟩
      case round =>
        obtain ⟨k, l, hr, hbw, hks, hgk, hu, hl⟩ := hrel.out
        clear hrel HL
        have HRw := Aside.mk hr
        have HBw := Aside.mk hbw
        have HUw := Aside.mk hu
        obtain ⟨p4, v4, hb4, _⟩ := hr
        have d0 := cel hb4 0 (v := .string s) rfl
        have d1 := cel hb4 1 (v := .int .i64 k) rfl
        have hB4 : B < wr.heap.size := (Array.getElem?_eq_some_iff.1 hb4).1
        clear hb4 hbw hu
        by_cases hk : k < s.size
        · obtain ⟨m, rfl⟩ : ∃ m, gk = m + 1 := ⟨gk - 1, by omega⟩
          have hki : (k : Int) < (s.size : Int) := by omega
          have hk0 : (0 : Int) ≤ (k : Int) := by omega
          have HST := Aside.mk (show readL nm s = (if s[k] == 92 then (match signAt nm s (k + 1) with
              | some (z, a) => readR nm s m a (l ++ [z])
              | none => none)
            else if barB nm s.size k s[k] then none else readR nm s m (k + 1) (l ++ [s[k]])) by rw [← HUw.out]; simp only [readR]; rw [dif_pos hk])
          have hidx : ∀ W : World, (Instr.index 9 (.string s) (.int .i64 (k : Int))).run Tryz.prog W = .ok (.int .u8 s[k].toNat) W := by
            intro W; go_simp
          generalize s[k] = b at HST hidx
          go_wp2_with fail
          go_quiet (fail)
          generalize hW2 : wr.drewN _ = W2
          have hb2 : Below wr.heap.size wr W2 := by rw [← hW2]; exact below_drewN _ _
          have HR3 := Aside.mk (HRw.out.below hb2)
          have HB3 := Aside.mk (below_then HBw.out hb2)
          have e0 := cell_below d0 hb2
          have e1 := cell_below d1 hb2
          have hB5 : B < W2.heap.size := Nat.lt_of_lt_of_le hB4 hb2.size
          clear hW2 hb2 d0 d1 hB4
          go_wp2_with fail
          go_quiet (fail)
          generalize hW3 : W2.drewN _ = W3
          have hb3 : Below W2.heap.size W2 W3 := by rw [← hW3]; exact below_drewN _ _
          have HR4 := Aside.mk (HR3.out.below hb3)
          have HB4 := Aside.mk (below_then HB3.out hb3)
          have hB6 : B < W3.heap.size := Nat.lt_of_lt_of_le hB5 hb3.size
          have f1 := cell_below e1 hb3
          clear hW3 hb3 e0 e1 hB5 hidx
          by_cases h92 : b = 92
          · subst h92
            have HS2 := Aside.mk (show readL nm s = (match signAt nm s (k + 1) with
              | some (z, a) => readR nm s m a (l ++ [z])
              | none => none) from HST.out)
            clear HST f1
            go_wp2_with fail
            refine (signed_calls HR4.out HE.out.gl HB4.out hB0 hk hs (by omega)).mono ?_
            rintro e w9 (⟨z, a, h1, rfl, h3, h4, h5, h6⟩ | ⟨h1, ⟨n, rfl⟩, h3⟩)
            · have HS3 := Aside.mk (show readR nm s m a (l ++ [z]) = readL nm s by rw [HS2.out, h1])
              have HR9 := Aside.mk h3
              have HB9 := Aside.mk h6
              clear h1 h3 h6 HS2
              go_wp2
              go_roundg m
              case measure => omega
              case rel => exact ⟨⟨a, l ++ [z], HR9.out, HB9.out, h5, by omega, HS3.out, by simp; omega⟩⟩
            · have HS3 := Aside.mk (show readL nm s = none by rw [HS2.out, h1])
              have HB9 := Aside.mk h3
              clear h1 h3 HS2
              go_wp2
              go_ret
              exact .inr ⟨HS3.out, ⟨n, rfl⟩, HB9.out⟩
          · have hbi : ((b.toNat : Int) == 92) = false := by
              rw [beq_eq_false_iff_ne]
              intro h; apply h92
              rw [← UInt8.toNat_inj]
              have : (92 : UInt8).toNat = 92 := rfl
              omega
            have HS2 := Aside.mk (show readL nm s = (if barB nm s.size k b then none else readR nm s m (k + 1) (l ++ [b])) by
              rw [HST.out, if_neg (by simpa using h92)])
            clear HST h92
            go_wp2_with fail
            refine (barred_calls HR4.out hk hs b).mono ?_
            rintro e w4 ⟨rfl, hb4⟩
            have HR5 := Aside.mk (HR4.out.below hb4)
            have HB5 := Aside.mk (below_then HB4.out hb4)
            have g1 := cell_below f1 hb4
            have hB7 : B < w4.heap.size := Nat.lt_of_lt_of_le hB6 hb4.size
            clear hb4 f1 hB6 hbi
            cases hbar : barB nm s.size k b with
            | true =>
              have HS3 := Aside.mk (show readL nm s = none by rw [HS2.out, hbar]; rfl)
              clear hbar HS2
              go_wp2
              go_ret
              exact .inr ⟨HS3.out, ⟨_, rfl⟩, HB5.out⟩
            | false =>
              have HS3 := Aside.mk (show readR nm s m (k + 1) (l ++ [b]) = readL nm s by rw [HS2.out, hbar]; rfl)
              clear hbar HS2 g1
              go_wp2_with fail
              refine (wbyte HR5.out hB7 (by omega) b).mono ?_
              rintro e w5 ⟨rfl, hr5, hb5⟩
              have HR6 := Aside.mk (RD.setAt hr5 (k + 1))
              have HB6 := Aside.mk ((HB5.out.trans (hb5.mono hB0)).setCell (p := ⟨B, 1, none⟩) hB0 (.int .i64 ((k + 1 : Nat) : Int)))
              rw [show ((k + 1 : Nat) : Int) = (k : Int) + 1 from rfl] at HR6 HB6
              obtain ⟨p6, v6, hb6, _⟩ := hr5
              have i1 := cel hb6 1 (v := .int .i64 k) rfl
              have j1 := frz hb6 1
              clear hb5 hb6 hB7
              go_wp2
              go_roundg m
              case measure => omega
              case rel => exact ⟨⟨k + 1, l ++ [b], HR6.out, HB6.out, by omega, by omega, HS3.out, by simp; omega⟩⟩
        · have hk2 : (s.size : Int) ≤ (k : Int) := by omega
          have HS3 := Aside.mk (show readL nm s = some l by
            rw [← HUw.out]
            cases gk with
            | zero => rfl
            | succ f => simp only [readR]; rw [dif_neg hk])
          clear hk
          go_wp2_with fail
          go_quiet (fail)
          generalize hW2 : wr.drewN _ = W2
          have hb2 : Below wr.heap.size wr W2 := by rw [← hW2]; exact below_drewN _ _
          have HR3 := Aside.mk (HRw.out.below hb2)
          have HB3 := Aside.mk (below_then HBw.out hb2)
          clear hW2 hb2 d0 d1 hB4
          go_wp2
          go_ret
          exact .inl ⟨l, k, HS3.out, rfl, HR3.out, by omega, HB3.out⟩
end Go.Proofs.YtjmpkbmgcbalkaaGreatDoor.Esc
/- esc.ReadName, esc.ReadFilter: values of texts. Conditions: at most 10^6 bytes; the package-level variables of Env. -/
namespace Go.Proofs.YtjmpkbmgcbalkaaGreatDoor.Esc
open Go.RowKit
set_option linter.unusedVariables false
def readT (nm : Bool) (s : ByteArray) : List UInt8 := (readL nm s).getD []
def readC (nm : Bool) (s : ByteArray) : Int := if (readL nm s).isSome then 0 else 60
set_option maxRecDepth 100000 in
set_option maxHeartbeats 4000000 in
theorem read_fn (s : ByteArray) (nm : Bool) (hs : s.size ≤ 1000000) (w : World) (p : Nat → Addr) (hE : Env w p) :
    Calls Tryz.prog 97 #[.string s, .bool nm] w fun e w' => e = .returned (.tuple #[.string ⟨(readT nm s).toArray⟩, .int .i64 (readC nm s)]) ∧ Below w.heap.size w w' := by
  have HE := Aside.mk hE
  clear hE
  have hb0 := below_new w (.cells #[.string s, .int .i64 0, .bool nm, .pointer none, .slice none 0 0] 154)
  have hr0 : RD (w.alloc (.cells #[.string s, .int .i64 0, .bool nm, .pointer none, .slice none 0 0] 154)) w.heap.size s 0 nm [] :=
    ⟨_, _, World.alloc_heap_new w _, .inl rfl, ⟨by simp [Lib.byteCells], .inl ⟨rfl, rfl⟩⟩, fun _ => rfl⟩
  have HC := Aside.mk (read_calls hr0 HE.out hb0 (Nat.le_refl _) hs)
  clear hb0 hr0
  go_enter Tryz.func97, Tryz.ntmps97
  go_wp2_with fail
  refine HC.out.mono ?_
  rintro e w1 (⟨l, a, h1, rfl, h3, h4, h5⟩ | ⟨h1, ⟨n, rfl⟩, h3⟩)
  · have HT := Aside.mk (show readT nm s = l by unfold readT; rw [h1]; rfl)
    have HD := Aside.mk (show readC nm s = 0 by unfold readC; rw [h1]; rfl)
    have HR := Aside.mk h3
    have HB := Aside.mk h5
    clear h1 h3 h5
    go_wp2_with fail
    refine (text_of HR.out).mono ?_
    rintro e w2 ⟨rfl, hb⟩
    have HB2 := Aside.mk (HB.out.trans hb)
    clear hb
    go_wp2
    go_ret2
    exact ⟨by rw [HT.out, HD.out]; rfl, HB2.out⟩
  · have HT := Aside.mk (show readT nm s = [] by unfold readT; rw [h1]; rfl)
    have HD := Aside.mk (show readC nm s = 60 by unfold readC; rw [h1]; rfl)
    have HB := Aside.mk h3
    clear h1 h3
    go_wp2_with fail
    refine (ToldEsc.told_wrong (.int .i64 n) rfl w1 p (HE.out.gl.below HB.out)).mono ?_
    rintro e w2 ⟨rfl, hb⟩
    have HB2 := Aside.mk (below_then HB.out hb)
    clear hb
    go_wp2
    go_ret2
    exact ⟨by rw [HT.out, HD.out]; rfl, HB2.out⟩
theorem readName_calls (s : ByteArray) (hs : s.size ≤ 1000000) (w : World) (p : Nat → Addr) (hE : Env w p) :
    Calls Tryz.prog 84 #[.string s] w fun e w' => e = .returned (.tuple #[.string ⟨(readT true s).toArray⟩, .int .i64 (readC true s)]) ∧ Below w.heap.size w w' := by
  have HC := Aside.mk (read_fn s true hs w p hE)
  clear hE
  go_enter Tryz.func84, Tryz.ntmps84
  go_wp2_with fail
  refine HC.out.mono ?_
  rintro e w1 ⟨rfl, hb⟩
  have HB := Aside.mk hb
  clear hb
  go_wp2
  go_ret2
  exact ⟨rfl, HB.out⟩
end Go.Proofs.YtjmpkbmgcbalkaaGreatDoor.Esc
/- latinerref05 and latinerref06, walked: digits of bytes, bytes of digits, a value's text as a name's, and its value again. Conditions: texts of at most 10^6 bytes. -/
namespace Go.Proofs.YtjmpkbmgcbalkaaGreatDoor.Rf
open Go.RowKit
set_option linter.unusedVariables false
variable {X : En}
/-- a text of bytes -/
def tx (l : List UInt8) : ByteArray := ⟨l.toArray⟩
theorem tx_app (a b : List UInt8) : tx a ++ tx b = tx (a ++ b) := by
  unfold tx
  apply ByteArray.ext
  rw [ByteArray.data_append]
  simp
theorem tx_list (l : List UInt8) : (tx l).data.toList = l := by simp [tx]
theorem tx_size (l : List UInt8) : (tx l).size = l.length := rfl
theorem tx_of (s : ByteArray) : tx s.data.toList = s := rfl
theorem tx_cut (s : ByteArray) (a b : Nat) : s.extract a b = tx ((s.data.toList.take b).drop a) := by
  apply ByteArray.ext
  apply Array.toList_inj.1
  rw [ByteArray.data_extract, Array.toList_extract, List.extract_eq_take_drop, tx, List.drop_take]
theorem tx_byte (s : ByteArray) (a : Nat) (h : a < s.size) : s.extract a (a + 1) = tx [s[a]] := by
  rw [tx_cut]
  congr 1
  rw [List.drop_take, Nat.add_sub_cancel_left, Txt.drop_cons s a h]
  rfl
theorem st_catx (a b : List UInt8) (h : a.length + b.length ≤ 1000000000) {s t : ByteArray} (e1 : s = tx a) (e2 : t = tx b) {K : ByteArray → Prop} (hK : K (tx (a ++ b))) : s.size + t.size ≤ 9223372036854775807 ∧ ∃ z, s ++ t = z ∧ K z := by
  subst e1 e2
  refine ⟨?_, _, tx_app a b, hK⟩
  rw [tx_size, tx_size]
  exact Nat.le_trans h (by decide)
theorem take_byte (s : ByteArray) (i : Nat) (h : i < s.size) : s.data.toList.take (i + 1) = s.data.toList.take i ++ [s[i]] := by
  have h' : i < s.data.toList.length := by simpa using h
  rw [List.take_succ_eq_append_getElem h']
  rfl
theorem hexL_len (l : List UInt8) : (Code.hexL l).length = 2 * l.length := by
  induction l with
  | nil => rfl
  | cons b t ih => rw [show Code.hexL (b :: t) = Code.hexB b ++ Code.hexL t from rfl, List.length_append, ih, List.length_cons]; simp [Code.hexB]; omega
theorem hexL_snoc (l : List UInt8) (b : UInt8) : Code.hexL (l ++ [b]) = Code.hexL l ++ Code.hexB b := by simp [Code.hexL]
theorem digit_cut : ∀ m : Fin 16, (([48, 49, 50, 51, 52, 53, 54, 55, 56, 57, 97, 98, 99, 100, 101, 102] : List UInt8).take (m.1 + 1)).drop m.1 = [Code.hexD m.1] := by decide
theorem hex_fn (s : ByteArray) (hs : s.size ≤ 100000000) : Fn Tryz.prog X 58 [.v (.str s)] (.v (.str (tx (Code.hexL s.data.toList)))) := by
  refine fn_prog tabOk mixed Tryz.f58 Tryz.func58 (by kernel_rfl) (by kernel_rfl) ?_
  conv => whnf
  refine ⟨Nat, fun k => ⟨38, [(0, .v (.str s)), (3, .v (.str (tx [48, 49, 50, 51, 52, 53, 54, 55, 56, 57, 97, 98, 99, 100, 101, 102]))), (4, .v (.str (tx (Code.hexL (s.data.toList.take k))))), (5, .v (.int .i64 (k : Nat)))], [], []⟩, fun k => k ≤ s.size, fun k => s.size - k, ⟨0, [], by omega, ?_⟩, fun k hk => ?_⟩
  · exact ⟨rfl, rfl, ⟨.inl rfl, .inl rfl, .inl rfl, .inl rfl, trivial⟩, trivial, trivial⟩
  conv => whnf
  refine ⟨rfl, cmp_split (fun h => ?_) (fun h => ?_)⟩
  · have hkl : k < s.size := by omega
    have hb := s[k].toNat_lt
    have hll := hexL_len (s.data.toList.take k)
    have hle : (s.data.toList.take k).length ≤ k := by simp; omega
    conv => whnf
    refine st_byte hkl ?_
    conv => whnf
    refine st_int _ ?_
    conv => whnf
    refine st_div _ 16 (by decide) (by omega) ?_
    conv => whnf
    refine st_byte hkl ?_
    conv => whnf
    refine st_int _ ?_
    conv => whnf
    refine st_mod _ 16 (by decide) ?_
    conv => whnf
    refine ⟨none, by kernel_rfl, ?_⟩; conv => whnf
    refine st_add (s[k].toNat / 16) 1 (by omega) ?_
    conv => whnf
    refine st_cut (s[k].toNat / 16) (s[k].toNat / 16 + 1) rfl rfl (by omega) (by rw [tx_size]; simp; omega) ?_
    conv => whnf
    refine st_catx (Code.hexL (s.data.toList.take k)) [Code.hexD (s[k].toNat / 16)] (by rw [hll]; simp; omega) rfl ?_ ?_
    · rw [tx_cut, tx_list]; congr 1; exact digit_cut ⟨s[k].toNat / 16, by omega⟩
    conv => whnf
    refine st_add (s[k].toNat % 16) 1 (by omega) ?_
    conv => whnf
    refine st_cut (s[k].toNat % 16) (s[k].toNat % 16 + 1) rfl rfl (by omega) (by rw [tx_size]; simp; omega) ?_
    conv => whnf
    refine st_catx (Code.hexL (s.data.toList.take k) ++ [Code.hexD (s[k].toNat / 16)]) [Code.hexD (s[k].toNat % 16)] (by rw [List.length_append, hll]; simp; omega) rfl ?_ ?_
    · rw [tx_cut, tx_list]; congr 1; exact digit_cut ⟨s[k].toNat % 16, by omega⟩
    conv => whnf
    refine st_add k 1 (by omega) ?_
    conv => whnf
    refine ⟨k + 1, [], hkl, by dsimp only; omega, ?_⟩
    exact ⟨rfl, rfl, ⟨.inl rfl, .inl rfl, .inl (congrArg V.str (by rw [take_byte s k hkl, hexL_snoc, List.append_assoc]; rfl)), .inl rfl, trivial⟩, trivial, trivial⟩
  · conv => whnf
    exact ⟨.inl (congrArg V.str (by rw [List.take_of_length_le (by simp; omega)])), rfl⟩
/-- what a digit is worth; below 0: it is none -/
def digN (c : UInt8) : Int := match Code.hexVal c with
  | some x => (x : Int)
  | none => -1
theorem wrap8 {a : Int} (h1 : 0 ≤ a) (h2 : a ≤ 255) : IntKind.u8.wrap a = a := by
  simp only [IntKind.wrap, IntKind.signed, IntKind.bits]
  simp
  omega
theorem hexVal_0 (c : UInt8) (h : 48 ≤ c.toNat ∧ c.toNat ≤ 57) : Code.hexVal c = some (c.toNat - 48) := by unfold Code.hexVal; rw [if_pos h]
theorem hexVal_a (c : UInt8) (h : 97 ≤ c.toNat ∧ c.toNat ≤ 102) : Code.hexVal c = some (c.toNat - 87) := by unfold Code.hexVal; rw [if_neg (by omega), if_pos h]
theorem hexVal_A (c : UInt8) (h : 65 ≤ c.toNat ∧ c.toNat ≤ 70) : Code.hexVal c = some (c.toNat - 55) := by unfold Code.hexVal; rw [if_neg (by omega), if_neg (by omega), if_pos h]
theorem hexVal_no (c : UInt8) (h : ¬ (48 ≤ c.toNat ∧ c.toNat ≤ 57) ∧ ¬ (97 ≤ c.toNat ∧ c.toNat ≤ 102) ∧ ¬ (65 ≤ c.toNat ∧ c.toNat ≤ 70)) : Code.hexVal c = none := by unfold Code.hexVal; rw [if_neg h.1, if_neg h.2.1, if_neg h.2.2]
theorem st_minus8 (a b : Nat) (hab : b ≤ a) (ha : a ≤ 255) {K : Int → Prop} (h : K ((a - b : Nat) : Int)) : IntKind.u8 = IntKind.u8 ∧ ∃ n, IntKind.u8.wrap ((a : Int) - (b : Int)) = n ∧ K n :=
  ⟨rfl, _, wrap8 (by omega) (by omega), by rw [show ((a : Int) - (b : Int)) = ((a - b : Nat) : Int) by omega]; exact h⟩
theorem st_nat (n : Nat) (hn : n ≤ 1000000000000000) {K : Int → Prop} (h : K (n : Int)) : ∃ z, IntKind.i64.wrap (n : Int) = z ∧ K z := ⟨_, wrap64 (by omega) (by omega), h⟩
theorem digit_fn (c : UInt8) : Fn Tryz.prog X 113 [.v (.int .u8 c.toNat)] (.v (.int .i64 (digN c))) := by
  have hc := c.toNat_lt
  refine fn_prog tabOk mixed Tryz.f113 Tryz.func113 (by kernel_rfl) (by kernel_rfl) ?_
  conv => whnf
  (repeat' (first | (refine ⟨rfl, cmp_split (fun h => ?_) (fun h => ?_)⟩ <;> (conv => whnf)) | fail))
  all_goals first
    | exact ⟨.inl (congrArg (V.int .i64) (by rw [digN, hexVal_no c (by omega)])), rfl⟩
    | (refine st_minus8 c.toNat 48 (by omega) (by omega) ?_
       conv => whnf
       refine st_nat (c.toNat - 48) (by omega) ?_
       conv => whnf
       exact ⟨.inl (congrArg (V.int .i64) (by rw [digN, hexVal_0 c (by omega)])), rfl⟩)
    | (refine st_minus8 c.toNat 97 (by omega) (by omega) ?_
       conv => whnf
       refine st_nat (c.toNat - 97) (by omega) ?_
       conv => whnf
       refine st_add (c.toNat - 97) 10 (by omega) ?_
       conv => whnf
       exact ⟨.inl (congrArg (V.int .i64) (by rw [digN, hexVal_a c (by omega)]; show ((c.toNat - 97 + 10 : Nat) : Int) = ((c.toNat - 87 : Nat) : Int); omega)), rfl⟩)
    | (refine st_minus8 c.toNat 65 (by omega) (by omega) ?_
       conv => whnf
       refine st_nat (c.toNat - 65) (by omega) ?_
       conv => whnf
       refine st_add (c.toNat - 65) 10 (by omega) ?_
       conv => whnf
       exact ⟨.inl (congrArg (V.int .i64) (by rw [digN, hexVal_A c (by omega)]; show ((c.toNat - 65 + 10 : Nat) : Int) = ((c.toNat - 55 : Nat) : Int); omega)), rfl⟩)
theorem dig_some {c : UInt8} {x : Nat} (h : Code.hexVal c = some x) : Fn Tryz.prog X 113 [.v (.int .u8 c.toNat)] (.v (.int .i64 x)) := by
  have := digit_fn (X := X) c
  rwa [show digN c = (x : Int) by rw [digN, h]] at this
theorem dig_none {c : UInt8} (h : Code.hexVal c = none) : Fn Tryz.prog X 113 [.v (.int .u8 c.toNat)] (.v (.int .i64 (-1))) := by
  have := digit_fn (X := X) c
  rwa [show digN c = -1 by rw [digN, h]] at this
theorem unhex_fn (a b : UInt8) : Fn Tryz.prog X 99 [.v (.str (tx [a, b]))] (.tup [.v (.str (tx (Code.unhexT [a, b]))), .v (.int .i64 (Code.unhexC [a, b]))]) := by
  have hsz : (tx [a, b]).size = 2 := rfl
  refine fn_prog tabOk mixed Tryz.f99 Tryz.func99 (by kernel_rfl) (by kernel_rfl) ?_
  conv => whnf
  refine ⟨Nat, fun k => ⟨49, [(0, .v (.str (tx [a, b]))), (4, .v (.str (tx (if k = 0 then [] else Code.unhexT [a, b])))), (5, .v (.int .i64 ((2 * k : Nat) : Int)))], [], []⟩, fun k => k ≤ 1 ∧ (k = 1 → Code.unhexC [a, b] = 0), fun k => 1 - k, ⟨0, [], ⟨by omega, by omega⟩, ?_⟩, fun k ⟨hk, hk1⟩ => ?_⟩
  · exact ⟨rfl, rfl, ⟨.inl rfl, .inl rfl, .inl rfl, trivial⟩, trivial, trivial⟩
  conv => whnf
  rcases (show k = 0 ∨ k = 1 by omega) with rfl | rfl
  · refine ⟨rfl, cmp_true (by omega) ?_⟩
    conv => whnf
    refine st_add 0 1 (by omega) ?_
    conv => whnf
    refine ⟨rfl, cmp_false (by omega) ?_⟩
    conv => whnf
    refine st_byte (i := 0) (by omega) ?_
    conv => whnf
    cases ha : Code.hexVal a with
    | none =>
      have e1 : Code.unhexT [a, b] = [] := by simp [Code.unhexT, Code.unhex2, ha]
      have e2 : Code.unhexC [a, b] = 50 := by simp [Code.unhexC, Code.unhex2, ha]
      (refine st_call (dig_none ha) ?_ rfl rfl ?_; (focus ((repeat' (first | exact trivial | exact rfl | exact Or.inl rfl | exact Or.inr ⟨rfl, rfl⟩ | refine And.intro ?_ ?_)); done)); conv => whnf)
      refine ⟨rfl, cmp_true (by decide) ?_⟩
      conv => whnf
      rw [e1, e2]
      exact ⟨⟨.inl rfl, .inl rfl, trivial⟩, rfl⟩
    | some x =>
      (refine st_call (dig_some ha) ?_ rfl rfl ?_; (focus ((repeat' (first | exact trivial | exact rfl | exact Or.inl rfl | exact Or.inr ⟨rfl, rfl⟩ | refine And.intro ?_ ?_)); done)); conv => whnf)
      refine ⟨rfl, cmp_false (by omega) ?_⟩
      conv => whnf
      refine st_add 0 1 (by omega) ?_
      conv => whnf
      refine st_byte (i := 1) (by omega) ?_
      conv => whnf
      cases hb : Code.hexVal b with
      | none =>
        have e1 : Code.unhexT [a, b] = [] := by simp [Code.unhexT, Code.unhex2, ha, hb]
        have e2 : Code.unhexC [a, b] = 50 := by simp [Code.unhexC, Code.unhex2, ha, hb]
        (refine st_call (dig_none hb) ?_ rfl rfl ?_; (focus ((repeat' (first | exact trivial | exact rfl | exact Or.inl rfl | exact Or.inr ⟨rfl, rfl⟩ | refine And.intro ?_ ?_)); done)); conv => whnf)
        refine ⟨rfl, cmp_true (by decide) ?_⟩
        conv => whnf
        rw [e1, e2]
        exact ⟨⟨.inl rfl, .inl rfl, trivial⟩, rfl⟩
      | some y =>
        have e1 : Code.unhexT [a, b] = [UInt8.ofNat (16 * x + y)] := by simp [Code.unhexT, Code.unhex2, ha, hb]
        have e2 : Code.unhexC [a, b] = 0 := by simp [Code.unhexC, Code.unhex2, ha, hb]
        have hx := (Code.hexVal_lt ha).1
        have hy := (Code.hexVal_lt hb).1
        (refine st_call (dig_some hb) ?_ rfl rfl ?_; (focus ((repeat' (first | exact trivial | exact rfl | exact Or.inl rfl | exact Or.inr ⟨rfl, rfl⟩ | refine And.intro ?_ ?_)); done)); conv => whnf)
        refine ⟨rfl, cmp_false (by omega) ?_⟩
        conv => whnf
        refine ⟨some [0, 1, 2, 3, 6, 7, 8, 9, 4, 5, 10, 11, 12, 13, 14, 15, 16], by kernel_rfl, ?_⟩; conv => whnf
        refine st_byte (i := 0) (by omega) ?_
        conv => whnf
        refine st_add 0 1 (by omega) ?_
        conv => whnf
        refine st_byte (i := 1) (by omega) ?_
        conv => whnf
        (refine st_call (dig_some ha) ?_ rfl rfl ?_; (focus ((repeat' (first | exact trivial | exact rfl | exact Or.inl rfl | exact Or.inr ⟨rfl, rfl⟩ | refine And.intro ?_ ?_)); done)); conv => whnf)
        refine st_times 16 x (by omega) ?_
        conv => whnf
        (refine st_call (dig_some hb) ?_ rfl rfl ?_; (focus ((repeat' (first | exact trivial | exact rfl | exact Or.inl rfl | exact Or.inr ⟨rfl, rfl⟩ | refine And.intro ?_ ?_)); done)); conv => whnf)
        refine st_add (16 * x) y (by omega) ?_
        conv => whnf
        refine st_eq ?_
        conv => whnf
        refine ⟨_, rfl, ?_⟩
        conv => whnf
        refine st_catx [] [UInt8.ofNat (16 * x + y)] (by simp) rfl (by rw [ofNat_wrap]; rfl) ?_
        conv => whnf
        refine st_add 0 2 (by omega) ?_
        conv => whnf
        refine ⟨1, [], ⟨by omega, fun _ => e2⟩, by decide, ?_⟩
        exact ⟨rfl, rfl, ⟨.inl rfl, .inl (congrArg V.str (by rw [if_neg (by decide), e1]; rfl)), .inl rfl, trivial⟩, trivial, trivial⟩
  · refine ⟨rfl, cmp_false (by omega) ?_⟩
    conv => whnf
    rw [hk1 rfl]
    exact ⟨⟨.inl rfl, .inl rfl, trivial⟩, rfl⟩
theorem among_fn (c : UInt8) (l : ByteArray) (hl : l.size ≤ 1000000000) : Fn Tryz.prog X 57 [.v (.int .u8 c.toNat), .v (.str l)] (.v (.bool (l.data.toList.contains c))) := by
  refine fn_prog tabOk mixed Tryz.f57 Tryz.func57 (by kernel_rfl) (by kernel_rfl) ?_
  conv => whnf
  refine ⟨Nat, fun k => ⟨17, [(0, .v (.int .u8 c.toNat)), (1, .v (.str l)), (5, .v (.int .i64 (k : Nat)))], [], []⟩, fun k => k ≤ l.size ∧ l.data.toList.contains c = (l.data.toList.drop k).contains c, fun k => l.size - k, ⟨0, [], ⟨by omega, rfl⟩, ?_⟩, fun k ⟨hk, hk1⟩ => ?_⟩
  · exact ⟨rfl, rfl, ⟨.inl rfl, .inl rfl, .inl rfl, trivial⟩, trivial, trivial⟩
  conv => whnf
  refine ⟨rfl, cmp_split (fun h => ?_) (fun h => ?_)⟩
  · have hkl : k < l.size := by omega
    rw [Txt.drop_cons l k hkl] at hk1
    conv => whnf
    refine st_byte hkl ?_
    conv => whnf
    refine ⟨rfl, cmp_split (fun h2 => ?_) (fun h2 => ?_)⟩
    · conv => whnf
      have : l[k] = c := UInt8.toNat_inj.1 (by omega)
      exact ⟨.inl (by rw [hk1, this]; simp), rfl⟩
    · conv => whnf
      refine st_add k 1 (by omega) ?_
      conv => whnf
      refine ⟨k + 1, [], ⟨hkl, hk1.trans ?_⟩, by dsimp only; omega, ?_⟩
      · have : ¬ c = l[k] := fun e => h2 (by rw [e])
        simp [this]
      · exact ⟨rfl, rfl, ⟨.inl rfl, .inl rfl, .inl rfl, trivial⟩, trivial, trivial⟩
  · conv => whnf
    exact ⟨.inl (by rw [hk1, List.drop_eq_nil_of_le (by simp; omega)]; rfl), rfl⟩
theorem plain_fn (s : ByteArray) (hs : s.size ≤ 1000000000) : Fn Tryz.prog X 85 [.v (.str s)] (.v (.bool (Utf.utfB s && !s.data.toList.contains 0))) := by
  refine fn_prog tabOk mixed Tryz.f85 Tryz.func85 (by kernel_rfl) (by kernel_rfl) ?_
  conv => whnf
  refine st_call (right_fn s hs) ⟨.inl rfl, trivial⟩ rfl rfl ?_
  cases hu : Utf.utfB s
  · conv => whnf
    exact ⟨.inl rfl, rfl⟩
  · conv => whnf
    (refine st_call (among_fn 0 s hs) ?_ rfl rfl ?_; (focus ((repeat' (first | exact trivial | exact rfl | exact Or.inl rfl | exact Or.inr ⟨rfl, rfl⟩ | refine And.intro ?_ ?_)); done)); conv => whnf)
    exact ⟨.inl rfl, rfl⟩
/-- the byte of two digits at a place -/
theorem pair_fn (s : ByteArray) (k : Nat) (hs : s.size ≤ 1000000000) (hk : k ≤ s.size) : Fn Tryz.prog X 86 [.v (.str s), .v (.int .i64 k)] (.tup [.v (.str (tx (Esc.digitAt s k).toList)), .v (.bool (Esc.digitAt s k).isSome)]) := by
  have hl : (s.data.toList.drop k).length = s.size - k := by simp
  refine fn_prog tabOk mixed Tryz.f86 Tryz.func86 (by kernel_rfl) (by kernel_rfl) ?_
  conv => whnf
  refine st_add k 2 (by omega) ?_
  conv => whnf
  refine ⟨rfl, cmp_split (fun h => ?_) (fun h => ?_)⟩
  · conv => whnf
    have : Esc.digitAt s k = none := by
      unfold Esc.digitAt Esc.two
      match hd : s.data.toList.drop k, hl with
      | [], _ => rfl
      | [_], _ => rfl
      | _ :: _ :: _, hl => simp at hl; omega
    rw [this]
    exact ⟨⟨.inl rfl, .inl rfl, trivial⟩, rfl⟩
  · conv => whnf
    obtain ⟨a, b, t, hd⟩ : ∃ a b t, s.data.toList.drop k = a :: b :: t := by
      match hd : s.data.toList.drop k, hl with
      | [], hl => simp at hl; omega
      | [_], hl => simp at hl; omega
      | a :: b :: t, _ => exact ⟨a, b, t, rfl⟩
    have ecut : s.extract k (k + 2) = tx [a, b] := by
      rw [tx_cut, List.drop_take, Nat.add_sub_cancel_left, hd]; rfl
    have hz : (∃ z, Code.unhex2 [a, b] = some [z]) ∨ Code.unhex2 [a, b] = none := by
      cases ha : Code.hexVal a <;> cases hb : Code.hexVal b <;> simp [Code.unhex2, ha, hb]
    refine st_add k 2 (by omega) ?_
    conv => whnf
    refine st_cut k (k + 2) rfl rfl (by omega) (by omega) ?_
    rw [ecut]
    conv => whnf
    (refine st_call (unhex_fn a b) ?_ rfl rfl ?_; (focus ((repeat' (first | exact trivial | exact rfl | exact Or.inl rfl | exact Or.inr ⟨rfl, rfl⟩ | refine And.intro ?_ ?_)); done)); conv => whnf)
    rcases hz with ⟨z, hz⟩ | hz
    · have e1 : Esc.digitAt s k = some z := by
        unfold Esc.digitAt Esc.two
        rw [hd]
        show (match Code.unhex2 [a, b] with | some [z] => some z | _ => none) = _
        rw [hz]
      have e2 : Code.unhexT [a, b] = [z] := by unfold Code.unhexT; rw [hz]; rfl
      have e3 : Code.unhexC [a, b] = 0 := by unfold Code.unhexC; rw [hz]; rfl
      refine ⟨rfl, cmp_true e3 ?_⟩
      conv => whnf
      rw [e1, e2]
      exact ⟨⟨.inl rfl, .inl rfl, trivial⟩, rfl⟩
    · have e1 : Esc.digitAt s k = none := by
        unfold Esc.digitAt Esc.two
        rw [hd]
        show (match Code.unhex2 [a, b] with | some [z] => some z | _ => none) = _
        rw [hz]
      have e2 : Code.unhexT [a, b] = [] := by unfold Code.unhexT; rw [hz]; rfl
      have e3 : Code.unhexC [a, b] = 50 := by unfold Code.unhexC; rw [hz]; rfl
      refine ⟨rfl, cmp_false (by rw [e3]; decide) ?_⟩
      conv => whnf
      rw [e1, e2]
      exact ⟨⟨.inl rfl, .inl rfl, trivial⟩, rfl⟩
end Go.Proofs.YtjmpkbmgcbalkaaGreatDoor.Rf
/- latinerref06, walked: a value's text as a name's, and its value again. Conditions: texts of at most 10^6 bytes. -/
namespace Go.Proofs.YtjmpkbmgcbalkaaGreatDoor.Rf
open Go.RowKit
set_option linter.unusedVariables false
variable {X : En}
theorem outB_pq {n k : Nat} {b : UInt8} {p q : Bool} (h : Esc.nameR n k b = (p, q)) : Esc.outB (Esc.nameR n) k b = (if p || q then [92] else []) ++ (if q then Code.hexB b else [b]) := by unfold Esc.outB; rw [h]
set_option maxHeartbeats 4000000 in
theorem name_fn (s : ByteArray) (hs : s.size ≤ 1000000) : Fn Tryz.prog X 31 [.v (.str s)] (.v (.str (tx (Esc.outF (Esc.nameR s.size) 0 s.data.toList)))) := by
  refine fn_prog tabOk mixed Tryz.f31 Tryz.func31 (by kernel_rfl) (by kernel_rfl) ?_
  conv => whnf
  refine ⟨Nat, fun k => ⟨79, [(0, .v (.str s)), (3, .v (.str (tx (Esc.outF (Esc.nameR s.size) 0 (s.data.toList.take k))))), (4, .v (.int .i64 (k : Nat)))], [], []⟩, fun k => k ≤ s.size, fun k => s.size - k, ⟨0, [], by omega, ?_⟩, fun k hk => ?_⟩
  · exact ⟨rfl, rfl, ⟨.inl rfl, .inl rfl, .inl rfl, trivial⟩, trivial, trivial⟩
  conv => whnf
  refine ⟨rfl, cmp_split (fun h => ?_) (fun h => ?_)⟩
  · have hkl : k < s.size := by omega
    conv => whnf
    obtain ⟨b, hb⟩ : ∃ b, b = s[k] := ⟨_, rfl⟩
    have htk : (s.data.toList.take k).length = k := by simp; omega
    have hlen : (Esc.outF (Esc.nameR s.size) 0 (s.data.toList.take k)).length ≤ 3000000 := by have := Esc.outF_len (Esc.nameR s.size) (s.data.toList.take k) 0; omega
    have hout : Esc.outF (Esc.nameR s.size) 0 (s.data.toList.take (k + 1)) = Esc.outF (Esc.nameR s.size) 0 (s.data.toList.take k) ++ Esc.outB (Esc.nameR s.size) k b := by rw [take_byte s k hkl, Esc.outF_snoc, htk, Nat.zero_add, hb]
    obtain ⟨o, ho⟩ : ∃ o, o = Esc.outF (Esc.nameR s.size) 0 (s.data.toList.take k) := ⟨_, rfl⟩
    rw [← ho] at hlen hout ⊢
    obtain ⟨A, hA⟩ : ∃ A : Bool, A = (k == 0) := ⟨_, rfl⟩
    obtain ⟨B, hB⟩ : ∃ B : Bool, B = Esc.first2.contains b := ⟨_, rfl⟩
    obtain ⟨C, hC⟩ : ∃ C : Bool, C = (k + 1 == s.size) := ⟨_, rfl⟩
    obtain ⟨D, hD⟩ : ∃ D : Bool, D = (b == 32) := ⟨_, rfl⟩
    obtain ⟨E, hE⟩ : ∃ E : Bool, E = Esc.signs7.contains b := ⟨_, rfl⟩
    obtain ⟨F, hF⟩ : ∃ F : Bool, F = decide (b.toNat < 32) := ⟨_, rfl⟩
    obtain ⟨G, hG⟩ : ∃ G : Bool, G = decide (126 < b.toNat) := ⟨_, rfl⟩
    have iA : ((k : Nat) : Int) = 0 ↔ A = true := by rw [hA, beq_iff_eq]; omega
    have iC : ((k : Nat) : Int) = ((s.size - 1 : Nat) : Int) ↔ C = true := by rw [hC, beq_iff_eq]; omega
    have iD : ((b.toNat : Nat) : Int) = 32 ↔ D = true := by rw [hD, beq_iff_eq, ← UInt8.toNat_inj]; show _ ↔ b.toNat = 32; omega
    have iF : ((b.toNat : Nat) : Int) < 32 ↔ F = true := by rw [hF, decide_eq_true_eq]; omega
    have iG : (126 : Int) < ((b.toNat : Nat) : Int) ↔ G = true := by rw [hG, decide_eq_true_eq]; omega
    have hnr : Esc.nameR s.size k b = (A && B || C && D || E, F || G) := by
      unfold Esc.nameR Esc.plainB
      rw [hA, hB, hC, hD, hE]
      congr 1
      rw [hF, hG, Bool.eq_iff_iff]
      simp
    have hob := outB_pq hnr
    have f2 : Fn Tryz.prog X 57 [.v (.int .u8 b.toNat), .v (.str ⟨#[32, 35]⟩)] (.v (.bool B)) := hB ▸ among_fn b ⟨#[32, 35]⟩ (by decide)
    have f7 : Fn Tryz.prog X 57 [.v (.int .u8 b.toNat), .v (.str ⟨#[34, 43, 44, 59, 60, 62, 92]⟩)] (.v (.bool E)) := hE ▸ among_fn b ⟨#[34, 43, 44, 59, 60, 62, 92]⟩ (by decide)
    have ecut : s.extract k (k + 1) = tx [b] := by rw [tx_byte s k hkl, hb]
    clear hA hB hC hD hE hF hG hnr
    (repeat' (first | ((refine ⟨rfl, cmp_iff iA (fun h => ?_) (fun h => ?_)⟩) <;> (conv => whnf)) | ((refine ⟨rfl, cmp_iff iC (fun h => ?_) (fun h => ?_)⟩) <;> (conv => whnf)) | ((refine ⟨rfl, cmp_iff iD (fun h => ?_) (fun h => ?_)⟩) <;> (conv => whnf)) | ((refine ⟨rfl, cmp_iff iF (fun h => ?_) (fun h => ?_)⟩) <;> (conv => whnf)) | ((refine ⟨rfl, cmp_iff iG (fun h => ?_) (fun h => ?_)⟩) <;> (conv => whnf)) | ((refine st_byteE hkl hb ?_) <;> (conv => whnf)) | ((refine st_minus s.size 1 (by omega) (by omega) ?_) <;> (conv => whnf)) | ((refine st_callB f2 ⟨.inl rfl, .inl rfl, trivial⟩ rfl (fun h => ?_) (fun h => ?_)) <;> (conv => whnf)) | ((refine st_callB f7 ⟨.inl rfl, .inl rfl, trivial⟩ rfl (fun h => ?_) (fun h => ?_)) <;> (conv => whnf)) | fail))
    all_goals first
      | (refine st_add k 1 (by omega) ?_
         conv => whnf
         refine st_cut k (k + 1) rfl rfl (by omega) (by omega) ?_
         rw [ecut]
         conv => whnf
         refine st_catx o [b] (by simp; omega) rfl rfl ?_
         conv => whnf
         refine st_add k 1 (by omega) ?_
         conv => whnf
         refine ⟨k + 1, [], hkl, by dsimp only; omega, ?_⟩
         exact ⟨rfl, rfl, ⟨.inl rfl, .inl (congrArg V.str (by rw [hout, hob]; simp [*])), .inl rfl, trivial⟩, trivial, trivial⟩)
      | (refine st_catx o [92] (by simp; omega) rfl rfl ?_
         conv => whnf
         refine st_add k 1 (by omega) ?_
         conv => whnf
         refine st_cut k (k + 1) rfl rfl (by omega) (by omega) ?_
         rw [ecut]
         conv => whnf
         refine st_catx (o ++ [92]) [b] (by simp; omega) rfl rfl ?_
         conv => whnf
         refine st_add k 1 (by omega) ?_
         conv => whnf
         refine ⟨k + 1, [], hkl, by dsimp only; omega, ?_⟩
         exact ⟨rfl, rfl, ⟨.inl rfl, .inl (congrArg V.str (by rw [hout, hob]; simp [*])), .inl rfl, trivial⟩, trivial, trivial⟩)
      | (refine st_catx o [92] (by simp; omega) rfl rfl ?_
         conv => whnf
         refine st_add k 1 (by omega) ?_
         conv => whnf
         refine st_cut k (k + 1) rfl rfl (by omega) (by omega) ?_
         rw [ecut]
         conv => whnf
         (refine st_call (hex_fn (tx [b]) (by simp [tx_size])) ?_ rfl rfl ?_; (focus ((repeat' (first | exact trivial | exact rfl | exact Or.inl rfl | exact Or.inr ⟨rfl, rfl⟩ | refine And.intro ?_ ?_)); done)); conv => whnf)
         refine st_catx (o ++ [92]) (Code.hexL [b]) (by rw [hexL_len]; simp; omega) rfl rfl ?_
         conv => whnf
         refine st_add k 1 (by omega) ?_
         conv => whnf
         refine ⟨k + 1, [], hkl, by dsimp only; omega, ?_⟩
         exact ⟨rfl, rfl, ⟨.inl rfl, .inl (congrArg V.str (by rw [hout, hob]; simp [*, Code.hexL])), .inl rfl, trivial⟩, trivial, trivial⟩)
  · conv => whnf
    exact ⟨.inl (congrArg V.str (by rw [List.take_of_length_le (by simp; omega)])), rfl⟩
theorem signs_same (c : UInt8) : ([34, 43, 44, 59, 60, 62, 92, 32, 35, 61] : List UInt8).contains c = Esc.signs10.contains c := by
  have h : ∀ n : Fin 256, ([34, 43, 44, 59, 60, 62, 92, 32, 35, 61] : List UInt8).contains (UInt8.ofNat n.1) = Esc.signs10.contains (UInt8.ofNat n.1) := by decide +kernel
  have := h ⟨c.toNat, c.toNat_lt⟩
  rwa [UInt8.ofNat_toNat] at this
theorem digitAt_le {s : ByteArray} {a : Nat} {z : UInt8} (h : Esc.digitAt s a = some z) : a + 2 ≤ s.size := by
  have hl : (s.data.toList.drop a).length = s.size - a := by simp
  unfold Esc.digitAt Esc.two at h
  revert h
  match hd : s.data.toList.drop a, hl with
  | [], _ => intro h; cases h
  | [_], _ => intro h; cases h
  | _ :: _ :: _, hl => intro _; simp at hl; omega
theorem pair_some {s : ByteArray} {k : Nat} {z : UInt8} (hs : s.size ≤ 1000000000) (h : Esc.digitAt s k = some z) : Fn Tryz.prog X 86 [.v (.str s), .v (.int .i64 k)] (.tup [.v (.str (tx [z])), .v (.bool true)]) := by
  have := pair_fn (X := X) s k hs (by have := digitAt_le h; omega)
  rw [h] at this; exact this
theorem pair_none {s : ByteArray} {k : Nat} (hs : s.size ≤ 1000000000) (hk : k ≤ s.size) (h : Esc.digitAt s k = none) : Fn Tryz.prog X 86 [.v (.str s), .v (.int .i64 k)] (.tup [.v (.str (tx [])), .v (.bool false)]) := by
  have := pair_fn (X := X) s k hs hk
  rw [h] at this; exact this
set_option maxHeartbeats 4000000 in
theorem readName_fn (s : ByteArray) (hs : s.size ≤ 1000000) : Fn Tryz.prog X 61 [.v (.str s)] (.tup [.v (.str (tx (Esc.readT true s))), .v (.int .i64 (Esc.readC true s))]) := by
  have no : Esc.readL true s = none → Esc.readT true s = [] ∧ Esc.readC true s = 60 := fun h => ⟨by unfold Esc.readT; rw [h]; rfl, by unfold Esc.readC; rw [h]; rfl⟩
  refine fn_prog tabOk mixed Tryz.f61 Tryz.func61 (by kernel_rfl) (by kernel_rfl) ?_
  conv => whnf
  refine st_callB (plain_fn s (by omega)) ⟨.inl rfl, trivial⟩ rfl (fun hp => ?_) (fun hp => ?_)
  · conv => whnf
    have hL : Esc.readL true s = Esc.readR true s s.size 0 [] := by
      unfold Esc.readL
      rw [Bool.and_eq_true] at hp
      rw [hp.1, show s.data.toList.contains 0 = false by simpa using hp.2]
      rfl
    refine ⟨Nat × List UInt8, fun x => ⟨92, [(0, .v (.str s)), (4, .v (.str (tx x.2))), (5, .v (.int .i64 (x.1 : Nat)))], [], []⟩, fun x => x.1 ≤ s.size ∧ x.2.length ≤ x.1 ∧ ∃ f, s.size - x.1 ≤ f ∧ Esc.readR true s f x.1 x.2 = Esc.readL true s, fun x => s.size - x.1, ⟨(0, []), [], ⟨by dsimp only; omega, by simp, s.size, by dsimp only; omega, hL.symm⟩, ?_⟩, fun x hx => ?_⟩
    · exact ⟨rfl, rfl, ⟨.inl rfl, .inl rfl, .inl rfl, trivial⟩, trivial, trivial⟩
    obtain ⟨k, o⟩ := x
    obtain ⟨hk, hol, f, hf, hr⟩ := hx
    dsimp only at hk hol hf hr
    conv => whnf
    refine ⟨rfl, cmp_split (fun h => ?_) (fun h => ?_)⟩
    · dsimp only at h
      have hkl : k < s.size := by omega
      obtain ⟨f, rfl⟩ : ∃ g, f = g + 1 := ⟨f - 1, by omega⟩
      rw [Esc.readR, dif_pos hkl] at hr
      conv => whnf
      obtain ⟨b, hb⟩ : ∃ b, b = s[k] := ⟨_, rfl⟩
      rw [← hb] at hr
      refine st_byteE hkl hb ?_
      conv => whnf
      have back : ∀ j o', k < j → j ≤ s.size → o'.length ≤ j → Esc.readR true s f j o' = Esc.readL true s → (j ≤ s.size ∧ o'.length ≤ j ∧ ∃ f, s.size - j ≤ f ∧ Esc.readR true s f j o' = Esc.readL true s) := fun j o' h1 h2 h3 h4 => ⟨h2, h3, f, by omega, h4⟩
      obtain ⟨Z, hZ⟩ : ∃ Z : Bool, Z = (b == 92) := ⟨_, rfl⟩
      have iZ : ((b.toNat : Nat) : Int) = 92 ↔ Z = true := by rw [hZ, beq_iff_eq, ← UInt8.toNat_inj]; show _ ↔ b.toNat = 92; omega
      rw [← hZ] at hr
      refine ⟨rfl, cmp_iff iZ (fun h2 => ?_) (fun h2 => ?_)⟩
      · rw [h2, if_pos rfl] at hr
        conv => whnf
        refine st_add k 1 (by omega) ?_
        conv => whnf
        have hsg : Esc.signAt true s (k + 1) = if h : k + 1 < s.size then (if Esc.signs10.contains s[k + 1] = true then some (s[k + 1], k + 2) else (Esc.digitAt s (k + 1)).map fun z => (z, k + 3)) else (Esc.digitAt s (k + 1)).map fun z => (z, k + 3) := by
          unfold Esc.signAt; simp only [Bool.true_and]
        have two : (Esc.signAt true s (k + 1) = (Esc.digitAt s (k + 1)).map fun z => (z, k + 3)) ∨ ∃ h : k + 1 < s.size, Esc.signs10.contains s[k + 1] = true := by
          rw [hsg]
          by_cases h3 : k + 1 < s.size
          · rw [dif_pos h3]
            cases h4 : Esc.signs10.contains s[k + 1]
            · exact .inl (if_neg (by simp))
            · exact .inr ⟨h3, h4⟩
          · exact .inl (dif_neg h3)
        refine ⟨rfl, cmp_split (fun h3 => ?_) (fun h3 => ?_)⟩
        all_goals conv => whnf
        · have hk1 : k + 1 < s.size := by omega
          refine st_add k 1 (by omega) ?_
          conv => whnf
          refine st_byte hk1 ?_
          conv => whnf
          have f10 : Fn Tryz.prog X 57 [.v (.int .u8 s[k + 1].toNat), .v (.str ⟨#[34, 43, 44, 59, 60, 62, 92, 32, 35, 61]⟩)] (.v (.bool (Esc.signs10.contains s[k + 1]))) := signs_same s[k + 1] ▸ among_fn s[k + 1] ⟨#[34, 43, 44, 59, 60, 62, 92, 32, 35, 61]⟩ (by decide)
          refine st_callB f10 ⟨.inl rfl, .inl rfl, trivial⟩ rfl (fun h4 => ?_) (fun h4 => ?_)
          · rw [hsg, dif_pos hk1, if_pos h4] at hr
            conv => whnf
            refine st_add k 1 (by omega) ?_
            conv => whnf
            refine st_add k 2 (by omega) ?_
            conv => whnf
            refine st_cut (k + 1) (k + 2) rfl rfl (by omega) (by omega) ?_
            rw [tx_byte s (k + 1) hk1]
            conv => whnf
            refine st_catx o [s[k + 1]] (by simp; omega) rfl rfl ?_
            conv => whnf
            refine st_add k 1 (by omega) ?_
            conv => whnf
            refine st_add (k + 1) 1 (by omega) ?_
            conv => whnf
            refine ⟨(k + 2, o ++ [s[k + 1]]), [], back _ _ (by omega) (by omega) (by simp; omega) hr, by dsimp only; omega, ?_⟩
            exact ⟨rfl, rfl, ⟨.inl rfl, .inl rfl, .inl rfl, trivial⟩, trivial, trivial⟩
          · conv => whnf
            have hsg2 : Esc.signAt true s (k + 1) = (Esc.digitAt s (k + 1)).map fun z => (z, k + 3) := by rw [hsg, dif_pos hk1, h4, if_neg (by simp)]
            rw [hsg2] at hr
            refine st_add k 1 (by omega) ?_
            conv => whnf
            cases hd : Esc.digitAt s (k + 1) with
            | none =>
              rw [hd] at hr
              (refine st_call (pair_none (by omega) (by omega) hd) ?_ rfl rfl ?_; (focus ((repeat' (first | exact trivial | exact rfl | exact Or.inl rfl | exact Or.inr ⟨rfl, rfl⟩ | refine And.intro ?_ ?_)); done)); conv => whnf)
              rw [(no hr.symm).1, (no hr.symm).2]
              exact ⟨⟨.inl rfl, .inl rfl, trivial⟩, rfl⟩
            | some z =>
              have hle := digitAt_le hd
              rw [hd] at hr
              (refine st_call (pair_some (by omega) hd) ?_ rfl rfl ?_; (focus ((repeat' (first | exact trivial | exact rfl | exact Or.inl rfl | exact Or.inr ⟨rfl, rfl⟩ | refine And.intro ?_ ?_)); done)); conv => whnf)
              refine st_catx o [z] (by simp; omega) rfl rfl ?_
              conv => whnf
              refine st_add k 2 (by omega) ?_
              conv => whnf
              refine st_add (k + 2) 1 (by omega) ?_
              conv => whnf
              refine ⟨(k + 3, o ++ [z]), [], back _ _ (by omega) (by omega) (by simp; omega) hr, by dsimp only; omega, ?_⟩
              exact ⟨rfl, rfl, ⟨.inl rfl, .inl rfl, .inl rfl, trivial⟩, trivial, trivial⟩
        · have hsg2 : Esc.signAt true s (k + 1) = (Esc.digitAt s (k + 1)).map fun z => (z, k + 3) := by rw [hsg, dif_neg (by omega)]
          rw [hsg2] at hr
          refine st_add k 1 (by omega) ?_
          conv => whnf
          cases hd : Esc.digitAt s (k + 1) with
          | none =>
            rw [hd] at hr
            (refine st_call (pair_none (by omega) (by omega) hd) ?_ rfl rfl ?_; (focus ((repeat' (first | exact trivial | exact rfl | exact Or.inl rfl | exact Or.inr ⟨rfl, rfl⟩ | refine And.intro ?_ ?_)); done)); conv => whnf)
            rw [(no hr.symm).1, (no hr.symm).2]
            exact ⟨⟨.inl rfl, .inl rfl, trivial⟩, rfl⟩
          | some z => have hle := digitAt_le hd; omega
      · rw [h2, if_neg (by simp)] at hr
        conv => whnf
        obtain ⟨A, hA⟩ : ∃ A : Bool, A = (k == 0) := ⟨_, rfl⟩
        obtain ⟨B, hB⟩ : ∃ B : Bool, B = Esc.first2.contains b := ⟨_, rfl⟩
        obtain ⟨C, hC⟩ : ∃ C : Bool, C = (k + 1 == s.size) := ⟨_, rfl⟩
        obtain ⟨D, hD⟩ : ∃ D : Bool, D = (b == 32) := ⟨_, rfl⟩
        obtain ⟨E, hE⟩ : ∃ E : Bool, E = Esc.signs6.contains b := ⟨_, rfl⟩
        have iA : ((k : Nat) : Int) = 0 ↔ A = true := by rw [hA, beq_iff_eq]; omega
        have iC : ((k : Nat) : Int) = ((s.size - 1 : Nat) : Int) ↔ C = true := by rw [hC, beq_iff_eq]; omega
        have iD : ((b.toNat : Nat) : Int) = 32 ↔ D = true := by rw [hD, beq_iff_eq, ← UInt8.toNat_inj]; show _ ↔ b.toNat = 32; omega
        have hbar : Esc.barB true s.size k b = (A && B || C && D || E) := by
          unfold Esc.barB
          rw [if_pos rfl, hA, hB, hC, hD, hE]
        have f2 : Fn Tryz.prog X 57 [.v (.int .u8 b.toNat), .v (.str ⟨#[32, 35]⟩)] (.v (.bool B)) := hB ▸ among_fn b ⟨#[32, 35]⟩ (by decide)
        have f6 : Fn Tryz.prog X 57 [.v (.int .u8 b.toNat), .v (.str ⟨#[34, 43, 44, 59, 60, 62]⟩)] (.v (.bool E)) := hE ▸ among_fn b ⟨#[34, 43, 44, 59, 60, 62]⟩ (by decide)
        have ecut : s.extract k (k + 1) = tx [b] := by rw [tx_byte s k hkl, hb]
        rw [hbar] at hr
        clear hA hB hC hD hE hbar iZ hZ
        (repeat' (first | ((refine ⟨rfl, cmp_iff iA (fun h => ?_) (fun h => ?_)⟩) <;> (conv => whnf)) | ((refine ⟨rfl, cmp_iff iC (fun h => ?_) (fun h => ?_)⟩) <;> (conv => whnf)) | ((refine ⟨rfl, cmp_iff iD (fun h => ?_) (fun h => ?_)⟩) <;> (conv => whnf)) | ((refine st_byteE hkl hb ?_) <;> (conv => whnf)) | ((refine st_minus s.size 1 (by omega) (by omega) ?_) <;> (conv => whnf)) | ((refine st_callB f2 ⟨.inl rfl, .inl rfl, trivial⟩ rfl (fun h => ?_) (fun h => ?_)) <;> (conv => whnf)) | ((refine st_callB f6 ⟨.inl rfl, .inl rfl, trivial⟩ rfl (fun h => ?_) (fun h => ?_)) <;> (conv => whnf)) | fail))
        all_goals first
          | (rw [if_pos (by simp [*])] at hr
             rw [(no hr.symm).1, (no hr.symm).2]
             exact ⟨⟨.inl rfl, .inl rfl, trivial⟩, rfl⟩)
          | (rw [if_neg (by simp [*])] at hr
             refine st_add k 1 (by omega) ?_
             conv => whnf
             refine st_cut k (k + 1) rfl rfl (by omega) (by omega) ?_
             rw [ecut]
             conv => whnf
             refine st_catx o [b] (by simp; omega) rfl rfl ?_
             conv => whnf
             refine st_add k 1 (by omega) ?_
             conv => whnf
             refine ⟨(k + 1, o ++ [b]), [], back _ _ (by omega) (by omega) (by simp; omega) hr, by dsimp only; omega, ?_⟩
             exact ⟨rfl, rfl, ⟨.inl rfl, .inl rfl, .inl rfl, trivial⟩, trivial, trivial⟩)
    · conv => whnf
      dsimp only at h
      have hrr : Esc.readL true s = some o := by
        rw [← hr]
        cases f with
        | zero => rfl
        | succ f => rw [Esc.readR, dif_neg (by omega)]
      rw [show Esc.readT true s = o by unfold Esc.readT; rw [hrr]; rfl, show Esc.readC true s = 0 by unfold Esc.readC; rw [hrr]; rfl]
      exact ⟨⟨.inl rfl, .inl rfl, trivial⟩, rfl⟩
  · conv => whnf
    have hL : Esc.readL true s = none := by
      unfold Esc.readL
      rw [if_pos]
      cases h1 : Utf.utfB s
      · rfl
      · rw [h1, Bool.true_and] at hp
        rw [show s.data.toList.contains 0 = true by simpa using hp]; rfl
    rw [(no hL).1, (no hL).2]
    exact ⟨⟨.inl rfl, .inl rfl, trivial⟩, rfl⟩
end Go.Proofs.YtjmpkbmgcbalkaaGreatDoor.Rf
