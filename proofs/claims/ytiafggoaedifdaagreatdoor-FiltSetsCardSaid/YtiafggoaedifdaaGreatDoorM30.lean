/- Several texts, one behind the other. utf.Right: a text's check (a loop over signs without a body), and what it answers. Conditions: the decoder's tables are laid; at most 10^9 bytes. esc's reader: read. Conditions: the shape of memory that each theorem names; at most 10^6 bytes. esc.ReadName, esc.ReadFilter: values of texts. Conditions: at most 10^6 bytes; the package-level variables of Env. esc.ReadFilter. Conditions: at most 10^6 bytes; the package-level variables of Env. filt, walked: values read (esc.ReadFilter). Conditions: texts of at most 10^8 bytes. filt, walked: values. Conditions: texts of at most 10^6 bytes. filt, plain: sets read as a loop; what is read is the beginning of a text. No program. -/
import Derived.Test.YtiafggoaedifdaaGreatDoorM13
import Derived.Test.YtiafggoaedifdaaGreatDoorM29
import Derived.Test.YtiafggoaedifdaaGreatDoorM24
import Derived.Test.YtiafggoaedifdaaGreatDoorM16
import Derived.Test.YtiafggoaedifdaaGreatDoorM19
/- utf.Right: a text's check (a loop over signs without a body), and what it answers. Conditions: the decoder's tables are laid; at most 10^9 bytes. -/
namespace Go.Proofs.YtiafggoaedifdaaGreatDoor.Utf
open Go.RowKit Go.Lib
set_option linter.unusedVariables false
attribute [local go_sem] Oper.semAt_some
theorem signs_maker (s : ByteArray) (E : Addr) (w : World) :
    Calls Tryz.prog 171 #[.agg #[.string s], .pointer (some E)] w fun e w' => e = .returned (.func (.func 175) #[] #[.pointer (some ⟨w.heap.size, 0, none⟩), .pointer (some ⟨w.heap.size + 1, 0, none⟩)]) ∧ (w.alloc (.cells #[.string s] 250)).alloc (.cells #[.pointer (some E)] 257) = w' := by
  go_enter Tryz.func171, Tryz.ntmps171
  go_wp2
  go_ret
  exact ⟨by simp, rfl⟩
/-- what holds between two rounds -/
structure Jt (rc : Rng.Rec) (D Tx Ex Eb : Nat) (s : ByteArray) (w W : World) : Prop where
  d : W.heap[D]? = some (.deferred (some []))
  l : W.heap[D + 1]? = some (rc.at .ready none)
  t : W.heap[Tx]? = some (.cells #[.string s] 250 (0, 0))
  x : W.heap[Ex]? = some (.cells #[.pointer (some ⟨Eb, 0, none⟩)] 257 (0, 0))
  e : W.heap[Eb]? = some (.cells #[.nilIface] 61 (0, 0))
  b : Below w.heap.size w W
  z : D + 2 ≤ W.heap.size
theorem Jt.step {rc : Rng.Rec} {D Tx Ex Eb : Nat} {s : ByteArray} {w W W' : World} (h : Jt rc D Tx Ex Eb s w W) (ht : Tx < D) (hx : Ex < D) (he : Eb < D) (hw : w.heap.size ≤ D) (hb : Below (D + 2) W W') : Jt rc D Tx Ex Eb s w W' where
  d := (hb.block D (by omega)).trans h.d
  l := (hb.block (D + 1) (by omega)).trans h.l
  t := (hb.block Tx (by omega)).trans h.t
  x := (hb.block Ex (by omega)).trans h.x
  e := (hb.block Eb (by omega)).trans h.e
  b := h.b.trans (hb.mono (by omega))
  z := Nat.le_trans h.z hb.size
/-- what a check answers -/
def ChkRes (w : World) (s : ByteArray) (e : Ending) (w' : World) : Prop :=
  ((utfB s = true ∧ e = .returned .nilIface) ∨ (utfB s = false ∧ ∃ n : Int, e = .returned (.iface 261 (.agg #[.int .i64 n])))) ∧ Below w.heap.size w w'
set_option maxRecDepth 100000 in
set_option maxHeartbeats 4000000 in
theorem check_calls (s : ByteArray) (hs : s.size ≤ 1000000000) (w : World) (hu : Lib.Utf8Tabs 11 12 w) :
    Calls Tryz.prog 167 #[.agg #[.string s]] w (ChkRes w s) := by
  refine Rng.calls_of_marks (n := 1) Tryz.func167 rfl ?_
  simp only [Tryz.ntmps167, List.size_toArray, List.length_cons, List.length_nil, Nat.reduceAdd, Nat.reduceSub, Array.replicate_succ, Array.replicate_zero, List.push_toArray, List.append_toArray, List.nil_append, List.cons_append]
  go_wp2_with fail
  have hb2 : Below w.heap.size w ((w.alloc (.cells #[.string s] 252)).alloc (.cells #[.nilIface] 61)) := below_then (below_new _ _) (below_new _ _)
  have h2e : ((w.alloc (.cells #[.string s] 252)).alloc (.cells #[.nilIface] 61)).heap[w.heap.size + 1]? = some (.cells #[.nilIface] 61 (0, 0)) := by
    have := World.alloc_heap_new (w.alloc (.cells #[.string s] 252)) (.cells #[.nilIface] 61)
    rwa [World.size_alloc] at this
  have h2s : ((w.alloc (.cells #[.string s] 252)).alloc (.cells #[.nilIface] 61)).heap.size = w.heap.size + 2 := by simp
  generalize ((w.alloc (.cells #[.string s] 252)).alloc (.cells #[.nilIface] 61)) = W2 at hb2 h2e h2s ⊢
  have H2 := Aside.mk (And.intro hb2 (And.intro h2e h2s))
  clear hb2 h2e h2s
  refine (signs_maker s _ _).mono ?_
  rintro e w3 ⟨rfl, h3⟩
  have h3b : Below W2.heap.size W2 w3 := by rw [← h3]; exact below_then (below_new _ _) (below_new _ _)
  have h3t : w3.heap[W2.heap.size]? = some (.cells #[.string s] 250 (0, 0)) := by rw [← h3]; exact blk_below (World.alloc_heap_new W2 _) (below_new _ _)
  have h3x : w3.heap[W2.heap.size + 1]? = some (.cells #[.pointer (some ⟨w.heap.size + 1, 0, none⟩)] 257 (0, 0)) := by
    rw [← h3]
    have := World.alloc_heap_new (W2.alloc (.cells #[.string s] 250)) (.cells #[.pointer (some ⟨w.heap.size + 1, 0, none⟩)] 257)
    rwa [World.size_alloc] at this
  have h3s : w3.heap.size = W2.heap.size + 2 := by rw [← h3]; simp
  have H3 := Aside.mk (And.intro h3b (And.intro h3t (And.intro h3x h3s)))
  clear h3 h3b h3t h3x h3s
  go_wp2_with fail
  refine Rng.wp_range (n := 1) (gf := 175) (lb := #[.pointer (some ⟨W2.heap.size, 0, none⟩), .pointer (some ⟨W2.heap.size + 1, 0, none⟩)]) rfl (enters_of Tryz.func175 (by kernel_rfl) rfl) ?_
  intro fn
  generalize hrec : (Rng.Rec.mk fn _ _ _ _ _) = rc
  obtain ⟨W1, hW1⟩ : ∃ W1, W1 = (w3.alloc (.deferred (some []))).alloc (rc.at .ready none) := ⟨_, rfl⟩
  rw [← hW1]
  have hD := World.alloc_heap_new w3 (.deferred (some []))
  have hL := World.alloc_heap_new (w3.alloc (.deferred (some []))) (rc.at .ready none)
  have hD1 := blk_below hD (below_new _ (rc.at .ready none))
  have hbW : Below w3.heap.size w3 W1 := by rw [hW1]; exact below_then (below_new _ _) (below_new _ _)
  have hWs : W1.heap.size = w3.heap.size + 2 := by rw [hW1]; simp
  rw [World.size_alloc] at hL
  rw [← hW1] at hL hD1
  clear hW1 hD
  obtain ⟨hb2, h2e, h2s⟩ := H2.out
  obtain ⟨h3b, h3t, h3x, h3s⟩ := H3.out
  have hb23 := below_then h3b hbW
  have hTD : W2.heap.size < w3.heap.size := by omega
  have hXD : W2.heap.size + 1 < w3.heap.size := by omega
  have hED : w.heap.size + 1 < w3.heap.size := by omega
  have hwD : w.heap.size ≤ w3.heap.size := by omega
  have hEw : w.heap.size ≤ w.heap.size + 1 := by omega
  have hj0 : Jt rc w3.heap.size W2.heap.size (W2.heap.size + 1) (w.heap.size + 1) s w W1 := ⟨hD1, hL, blk_below h3t hbW, blk_below h3x hbW, blk_below h2e hb23, below_then hb2 hb23, by omega⟩
  have hfz : ∀ (W : World) (k : Nat) (cs : Array Value) (t : TypeId), W.heap[k]? = some (.cells cs t (0, 0)) → W.frozen? ⟨k, 0, none⟩ = false := fun W k cs t h => frz h 0
  clear h2s h3s hD1 hL
  refine (signs_iter (l0 := w3.heap.size + 1) (Tx := W2.heap.size) (Ex := W2.heap.size + 1) (K := w3.heap.size + 2) (E := ⟨w.heap.size + 1, 0, none⟩) hs (Jt rc w3.heap.size W2.heap.size (W2.heap.size + 1) (w.heap.size + 1) s w)
    (fun W h => cel h.t 0 rfl) (fun W h => cel h.x 0 rfl) (fun W h => ⟨_, cel h.e 0 rfl⟩) (fun W h => hfz _ _ _ _ h.e) (fun W h => tabs_below hu h.b) (fun W W' h hb => h.step hTD hXD hED hwD hb) (fun W h => h.z) ?_ W1 hj0 hWs).mono ?_
  · intro k r W hJ
    have ea := congrArg Rng.Rec.assign hrec
    have eb := congrArg Rng.Rec.body hrec
    have ep := congrArg Rng.Rec.params hrec
    have et := congrArg Rng.Rec.tmps hrec
    dsimp only at ea eb ep et
    refine ⟨rc.fn, _, _, _, run_yield (P := Tryz.prog) hJ.l (by rw [← ep]; rfl), Rng.round hJ.l ?_⟩
    rw [← ea, ← eb, ← ep, ← et]
    clear ea eb ep et hrec
    gi_wp2
    refine ⟨hJ.l, ?_⟩
    have hLb : (W.putObj (w3.heap.size + 1) (rc.at .busy none)).heap[w3.heap.size + 1]? = some (rc.at .busy none) := World.putObj_heap_same (Array.getElem?_eq_some_iff.1 hJ.l).1
    have hu := putObj_upd W (w3.heap.size + 1) (rc.at .busy none)
    gi_wp2
    have hu2 := putObj_upd (W.putObj (w3.heap.size + 1) (rc.at .busy none)) (w3.heap.size + 1) (rc.at .ready none)
    refine ⟨⟨hu2.blk (hu.blk hJ.d (by omega)) (by omega), World.putObj_heap_same (Array.getElem?_eq_some_iff.1 hLb).1, hu2.blk (hu.blk hJ.t (by omega)) (by omega), hu2.blk (hu.blk hJ.x (by omega)) (by omega), hu2.blk (hu.blk hJ.e (by omega)) (by omega), Upd.to_below (Upd.to_below hJ.b hu (by rintro k rfl; omega)) hu2 (by rintro k rfl; omega), by have := hJ.z; simpa [World.putObj] using this⟩, ?_⟩
    intro j hj
    simp only [World.putObj, Array.getElem?_setIfInBounds, Array.size_setIfInBounds]
    rw [if_neg (by omega), if_neg (by omega)]
  · rintro e W5 ⟨⟨v5, rfl⟩, hJ5⟩
    have key : ∃ ev, W5.heap[w3.heap.size]? = some (.deferred (some [])) ∧ W5.heap[w3.heap.size + 1]? = some (rc.at .ready none) ∧ W5.heap[w.heap.size + 1]? = some (.cells #[ev] 61 (0, 0)) ∧ Below w.heap.size w W5 ∧ ((utfB s = true ∧ ev = .nilIface) ∨ (utfB s = false ∧ ∃ n : Int, ev = .iface 261 (.agg #[.int .i64 n]))) := by
      rcases hJ5 with ⟨hq, hj⟩ | ⟨hq, n, W4, hj, rfl⟩
      · exact ⟨_, hj.d, hj.l, hj.e, hj.b, .inl ⟨hq, rfl⟩⟩
      · have hs4 := Upd.of_grown (S := fun k => k = w.heap.size + 1) (set_grown W4 (w.heap.size + 1) 0 (.iface 261 (.agg #[.int .i64 n]))) rfl
        exact ⟨_, hs4.blk hj.d (by omega), hs4.blk hj.l (by omega), set_blk hj.e 0 _, hj.b.setCell (p := ⟨w.heap.size + 1, 0, none⟩) hEw _, .inr ⟨hq, n, rfl⟩⟩
    obtain ⟨ev, a1, a2, a3, a5, a6⟩ := key
    refine ⟨⟨_, rfl⟩, .ready, none, by simp, a2, ?_⟩
    dsimp only
    have hu := putObj_upd W5 (w3.heap.size + 1) (rc.at .exhausted none)
    obtain ⟨WB, hWB⟩ : ∃ WB, WB = W5.putObj (w3.heap.size + 1) (rc.at .exhausted none) := ⟨_, rfl⟩
    rw [← hWB] at hu ⊢
    clear hWB hrec hJ5
    have A1 := Aside.mk (hu.blk a1 (by omega))
    have A5 := Aside.mk (Upd.to_below a5 hu (by rintro k rfl; omega))
    have c0 : WB.cell? ⟨w.heap.size + 1, 0, none⟩ = some ev := cel (hu.blk a3 (by omega)) 0 rfl
    have A6 := Aside.mk a6
    clear a1 a2 a3 a5 a6 hu hbW hb23 hj0
    go_wp2
    refine ⟨by simp, .inl ⟨_, _, rfl, run_takeDeferred A1.out, ?_⟩⟩
    have hu8 := putObj_upd WB w3.heap.size (.deferred none)
    refine ⟨ev, by simp [results, Tryz.f167, go_sem], ?_, Upd.to_below A5.out hu8 (by rintro k rfl; omega)⟩
    rcases A6.out with ⟨hq, rfl⟩ | ⟨hq, n, rfl⟩
    · exact .inl ⟨hq, rfl⟩
    · exact .inr ⟨hq, n, rfl⟩
set_option maxRecDepth 100000 in
theorem right_calls (s : ByteArray) (hs : s.size ≤ 1000000000) (w : World) (hu : Lib.Utf8Tabs 11 12 w) :
    Calls Tryz.prog 163 #[.string s] w fun e w' => e = .returned (.bool (utfB s)) ∧ Below w.heap.size w w' := by
  have HC := Aside.mk (check_calls s hs w hu)
  clear hu
  go_enter Tryz.func163, Tryz.ntmps163
  go_wp2_with fail
  refine HC.out.mono ?_
  rintro e w1 ⟨hc, hb⟩
  rcases hc with ⟨hq, rfl⟩ | ⟨hq, n, rfl⟩
  all_goals
    have HQ := Aside.mk hq
    clear hq
    go_wp2
    go_ret
    exact ⟨by rw [HQ.out]; rfl, hb⟩
end Go.Proofs.YtiafggoaedifdaaGreatDoor.Utf
/- esc's reader: read. Conditions: the shape of memory that each theorem names; at most 10^6 bytes. -/
namespace Go.Proofs.YtiafggoaedifdaaGreatDoor.Esc
open Go.RowKit
set_option linter.unusedVariables false
def RdRes (w0 : World) (B : Nat) (s : ByteArray) (nm : Bool) (e : Ending) (w' : World) : Prop :=
  (∃ l a, readL nm s = some l ∧ e = .returned .nilIface ∧ RD w' B s a nm l ∧ l.length ≤ s.size ∧ Below w0.heap.size w0 w') ∨ (readL nm s = none ∧ (∃ n : Int, e = .returned (.iface 247 (.agg #[.int .i64 n]))) ∧ Below w0.heap.size w0 w')
theorem contains0 (s : ByteArray) (w : World) : Calls Tryz.prog 164 #[.string s, .int .i32 0] w fun e w' => e = .returned (.bool (s.data.toList.contains 0)) ∧ Below w.heap.size w w' := by
  refine (Shelf.strings_ContainsRune_ascii s 0 w (by decide) (by decide)).mono ?_
  rintro e w' ⟨rfl, rfl⟩
  exact ⟨by rw [Txt.index_mem]; rfl, Below.refl _ _⟩
theorem sgn_shape {w0 : World} {B : Nat} {s : ByteArray} {at_ : Nat} {nm : Bool} {l : List UInt8} {e : Ending} {w' : World} (h : SgnRes w0 B s at_ nm l e w') : ∃ v, e = .returned v := by
  rcases h with ⟨z, a, h1, h2, _⟩ | ⟨h1, ⟨n, h2⟩, h3⟩
  · exact ⟨_, h2⟩
  · exact ⟨_, h2⟩
set_option maxRecDepth 100000 in
set_option maxHeartbeats 8000000 in
theorem read_calls {w0 w : World} {B : Nat} {s : ByteArray} {nm : Bool} {p : Nat → Addr} (h : RD w B s 0 nm []) (hE : Env w0 p) (h0 : Below w0.heap.size w0 w) (hB0 : w0.heap.size ≤ B) (hs : s.size ≤ 100000000) :
    Calls Tryz.prog 160 #[.pointer (some ⟨B, 0, none⟩)] w (RdRes w0 B s nm) := by
  have HR := Aside.mk h
  have H0 := Aside.mk h0
  have HE := Aside.mk hE
  obtain ⟨p', v, hb, _⟩ := h
  have c0 := cel hb 0 (v := .string s) rfl
  have hB : B < w.heap.size := (Array.getElem?_eq_some_iff.1 hb).1
  clear hb h0 hE
  go_enter Tryz.func160, Tryz.ntmps160
  go_wp2_with fail
  refine (Utf.right_calls s (by omega) w (HE.out.below H0.out).ut).mono ?_
  rintro e w1 ⟨rfl, hb1⟩
  have HR1 := Aside.mk (HR.out.below hb1)
  have HB1 := Aside.mk (below_then H0.out hb1)
  have c1 := cell_below c0 hb1
  clear hb1 c0
  cases hu : Utf.utfB s with
  | false =>
    have HL := Aside.mk (show readL nm s = none by unfold readL; rw [hu]; rfl)
    clear hu
    go_wp2
    go_ret
    exact .inr ⟨HL.out, ⟨_, rfl⟩, HB1.out⟩
  | true =>
    have HU := Aside.mk hu
    clear hu
    go_wp2_with fail
    refine (contains0 s w1).mono ?_
    rintro e w2 ⟨rfl, hb2⟩
    have HR2 := Aside.mk (HR1.out.below hb2)
    have HB2 := Aside.mk (below_then HB1.out hb2)
    clear hb2 c1
    cases hz : s.data.toList.contains 0 with
    | true =>
      have HL := Aside.mk (show readL nm s = none by unfold readL; rw [hz, HU.out]; rfl)
      clear hz
      go_wp2
      go_ret
      exact .inr ⟨HL.out, ⟨_, rfl⟩, HB2.out⟩
    | false =>
      have HL := Aside.mk (show readL nm s = readR nm s s.size 0 [] by unfold readL; rw [hz, HU.out]; rfl)
      clear hz
      go_wp2_with fail
      go_loopg [] s.size (fun gk wr => Aside (∃ k l, RD wr B s k nm l ∧ Below w0.heap.size w0 wr ∧ k ≤ s.size ∧ s.size ≤ k + gk ∧ readR nm s gk k l = readL nm s ∧ l.length ≤ k))
      case atStart => exact ⟨⟨0, [], HR2.out, HB2.out, by omega, by omega, HL.out.symm, by simp⟩⟩
      case round =>
        obtain ⟨k, l, hr, hbw, hks, hgk, hu, hl⟩ := hrel.out
        clear hrel HL
        have HRw := Aside.mk hr
        have HBw := Aside.mk hbw
        have HUw := Aside.mk hu
        obtain ⟨p4, v4, hb4, _⟩ := hr
        have d0 := cel hb4 0 (v := .string s) rfl
        have d1 := cel hb4 1 (v := .int .i64 k) rfl
        have hB4 : B < wr.heap.size := (Array.getElem?_eq_some_iff.1 hb4).1
        clear hb4 hbw hu
        by_cases hk : k < s.size
        · obtain ⟨m, rfl⟩ : ∃ m, gk = m + 1 := ⟨gk - 1, by omega⟩
          have hki : (k : Int) < (s.size : Int) := by omega
          have hk0 : (0 : Int) ≤ (k : Int) := by omega
          have HST := Aside.mk (show readL nm s = (if s[k] == 92 then (match signAt nm s (k + 1) with
              | some (z, a) => readR nm s m a (l ++ [z])
              | none => none)
            else if barB nm s.size k s[k] then none else readR nm s m (k + 1) (l ++ [s[k]])) by rw [← HUw.out]; simp only [readR]; rw [dif_pos hk]; try rfl)
          have hidx : ∀ W : World, (Instr.index 9 (.string s) (.int .i64 (k : Int))).run Tryz.prog W = .ok (.int .u8 s[k].toNat) W := by
            intro W; go_simp
          generalize s[k] = b at HST hidx
          go_wp2_with fail
          go_quiet (fail)
          generalize hW2 : wr.drewN _ = W2
          have hb2 : Below wr.heap.size wr W2 := by rw [← hW2]; exact below_drewN _ _
          have HR3 := Aside.mk (HRw.out.below hb2)
          have HB3 := Aside.mk (below_then HBw.out hb2)
          have e0 := cell_below d0 hb2
          have e1 := cell_below d1 hb2
          have hB5 : B < W2.heap.size := Nat.lt_of_lt_of_le hB4 hb2.size
          clear hW2 hb2 d0 d1 hB4
          go_wp2_with fail
          go_quiet (fail)
          generalize hW3 : W2.drewN _ = W3
          have hb3 : Below W2.heap.size W2 W3 := by rw [← hW3]; exact below_drewN _ _
          have HR4 := Aside.mk (HR3.out.below hb3)
          have HB4 := Aside.mk (below_then HB3.out hb3)
          have hB6 : B < W3.heap.size := Nat.lt_of_lt_of_le hB5 hb3.size
          have f1 := cell_below e1 hb3
          clear hW3 hb3 e0 e1 hB5 hidx
          by_cases h92 : b = 92
          · subst h92
            have HS2 := Aside.mk (show readL nm s = (match signAt nm s (k + 1) with
              | some (z, a) => readR nm s m a (l ++ [z])
              | none => none) from HST.out)
            clear HST f1
            go_wp2_with fail
            refine (signed_calls HR4.out HE.out.gl HB4.out hB0 hk hs (by omega)).mono ?_
            rintro e w9 (⟨z, a, h1, rfl, h3, h4, h5, h6⟩ | ⟨h1, ⟨n, rfl⟩, h3⟩)
            · have HS3 := Aside.mk (show readR nm s m a (l ++ [z]) = readL nm s by rw [HS2.out, h1])
              have HR9 := Aside.mk h3
              have HB9 := Aside.mk h6
              clear h1 h3 h6 HS2
              go_wp2
              go_roundg m
              case measure => omega
              case rel => exact ⟨⟨a, l ++ [z], HR9.out, HB9.out, h5, by omega, HS3.out, by simp; omega⟩⟩
            · have HS3 := Aside.mk (show readL nm s = none by rw [HS2.out, h1])
              have HB9 := Aside.mk h3
              clear h1 h3 HS2
              go_wp2
              go_ret
              exact .inr ⟨HS3.out, ⟨n, rfl⟩, HB9.out⟩
          · have hbi : ((b.toNat : Int) == 92) = false := by
              rw [beq_eq_false_iff_ne]
              intro h; apply h92
              rw [← UInt8.toNat_inj]
              have : (92 : UInt8).toNat = 92 := rfl
              omega
            have HS2 := Aside.mk (show readL nm s = (if barB nm s.size k b then none else readR nm s m (k + 1) (l ++ [b])) by
              rw [HST.out, if_neg (by simpa using h92)])
            clear HST h92
            go_wp2_with fail
            refine (barred_calls HR4.out hk hs b).mono ?_
            rintro e w4 ⟨rfl, hb4⟩
            have HR5 := Aside.mk (HR4.out.below hb4)
            have HB5 := Aside.mk (below_then HB4.out hb4)
            have g1 := cell_below f1 hb4
            have hB7 : B < w4.heap.size := Nat.lt_of_lt_of_le hB6 hb4.size
            clear hb4 f1 hB6 hbi
            cases hbar : barB nm s.size k b with
            | true =>
              have HS3 := Aside.mk (show readL nm s = none by rw [HS2.out, hbar]; rfl)
              clear hbar HS2
              go_wp2
              go_ret
              exact .inr ⟨HS3.out, ⟨_, rfl⟩, HB5.out⟩
            | false =>
              have HS3 := Aside.mk (show readR nm s m (k + 1) (l ++ [b]) = readL nm s by rw [HS2.out, hbar]; rfl)
              clear hbar HS2 g1
              go_wp2_with fail
              refine (wbyte HR5.out hB7 (by omega) b).mono ?_
              rintro e w5 ⟨rfl, hr5, hb5⟩
              have HR6 := Aside.mk (RD.setAt hr5 (k + 1))
              have HB6 := Aside.mk ((HB5.out.trans (hb5.mono hB0)).setCell (p := ⟨B, 1, none⟩) hB0 (.int .i64 ((k + 1 : Nat) : Int)))
              rw [show ((k + 1 : Nat) : Int) = (k : Int) + 1 from rfl] at HR6 HB6
              obtain ⟨p6, v6, hb6, _⟩ := hr5
              have i1 := cel hb6 1 (v := .int .i64 k) rfl
              have j1 := frz hb6 1
              clear hb5 hb6 hB7
              go_wp2
              go_roundg m
              case measure => omega
              case rel => exact ⟨⟨k + 1, l ++ [b], HR6.out, HB6.out, by omega, by omega, HS3.out, by simp; omega⟩⟩
        · have hk2 : (s.size : Int) ≤ (k : Int) := by omega
          have HS3 := Aside.mk (show readL nm s = some l by
            rw [← HUw.out]
            cases gk with
            | zero => rfl
            | succ f => simp only [readR]; rw [dif_neg hk])
          clear hk
          go_wp2_with fail
          go_quiet (fail)
          generalize hW2 : wr.drewN _ = W2
          have hb2 : Below wr.heap.size wr W2 := by rw [← hW2]; exact below_drewN _ _
          have HR3 := Aside.mk (HRw.out.below hb2)
          have HB3 := Aside.mk (below_then HBw.out hb2)
          clear hW2 hb2 d0 d1 hB4
          go_wp2
          go_ret
          exact .inl ⟨l, k, HS3.out, rfl, HR3.out, by omega, HB3.out⟩
end Go.Proofs.YtiafggoaedifdaaGreatDoor.Esc
/- esc.ReadName, esc.ReadFilter: values of texts. Conditions: at most 10^6 bytes; the package-level variables of Env. -/
namespace Go.Proofs.YtiafggoaedifdaaGreatDoor.Esc
open Go.RowKit
set_option linter.unusedVariables false
def readT (nm : Bool) (s : ByteArray) : List UInt8 := (readL nm s).getD []
def readC (nm : Bool) (s : ByteArray) : Int := if (readL nm s).isSome then 0 else 60
set_option maxRecDepth 100000 in
set_option maxHeartbeats 4000000 in
theorem read_fn (s : ByteArray) (nm : Bool) (hs : s.size ≤ 100000000) (w : World) (p : Nat → Addr) (hE : Env w p) :
    Calls Tryz.prog 154 #[.string s, .bool nm] w fun e w' => e = .returned (.tuple #[.string ⟨(readT nm s).toArray⟩, .int .i64 (readC nm s)]) ∧ Below w.heap.size w w' := by
  have HE := Aside.mk hE
  clear hE
  have hb0 := below_new w (.cells #[.string s, .int .i64 0, .bool nm, .pointer none, .slice none 0 0] 244)
  have hr0 : RD (w.alloc (.cells #[.string s, .int .i64 0, .bool nm, .pointer none, .slice none 0 0] 244)) w.heap.size s 0 nm [] :=
    ⟨_, _, World.alloc_heap_new w _, .inl rfl, ⟨by simp [Lib.byteCells], .inl ⟨rfl, rfl⟩⟩, fun _ => rfl⟩
  have HC := Aside.mk (read_calls hr0 HE.out hb0 (Nat.le_refl _) hs)
  clear hb0 hr0
  go_enter Tryz.func154, Tryz.ntmps154
  go_wp2_with fail
  refine HC.out.mono ?_
  rintro e w1 (⟨l, a, h1, rfl, h3, h4, h5⟩ | ⟨h1, ⟨n, rfl⟩, h3⟩)
  · have HT := Aside.mk (show readT nm s = l by unfold readT; rw [h1]; rfl)
    have HD := Aside.mk (show readC nm s = 0 by unfold readC; rw [h1]; rfl)
    have HR := Aside.mk h3
    have HB := Aside.mk h5
    clear h1 h3 h5
    go_wp2_with fail
    refine (text_of HR.out).mono ?_
    rintro e w2 ⟨rfl, hb⟩
    have HB2 := Aside.mk (HB.out.trans hb)
    clear hb
    go_wp2
    go_ret2
    exact ⟨by rw [HT.out, HD.out]; rfl, HB2.out⟩
  · have HT := Aside.mk (show readT nm s = [] by unfold readT; rw [h1]; rfl)
    have HD := Aside.mk (show readC nm s = 60 by unfold readC; rw [h1]; rfl)
    have HB := Aside.mk h3
    clear h1 h3
    go_wp2_with fail
    refine (ToldEsc.told_wrong (.int .i64 n) rfl w1 p (HE.out.gl.below HB.out)).mono ?_
    rintro e w2 ⟨rfl, hb⟩
    have HB2 := Aside.mk (below_then HB.out hb)
    clear hb
    go_wp2
    go_ret2
    exact ⟨by rw [HT.out, HD.out]; rfl, HB2.out⟩
end Go.Proofs.YtiafggoaedifdaaGreatDoor.Esc
/- esc.ReadFilter. Conditions: at most 10^6 bytes; the package-level variables of Env. -/
namespace Go.Proofs.YtiafggoaedifdaaGreatDoor.Esc
open Go.RowKit Go.Lib
set_option linter.unusedVariables false
set_option maxRecDepth 100000 in
set_option maxHeartbeats 4000000 in
theorem readFilter_calls (s : ByteArray) (hs : s.size ≤ 100000000) (w : World) (p : Nat → Addr) (hE : Env w p) :
    Calls Tryz.prog 140 #[.string s] w fun e w' => e = .returned (.tuple #[.string ⟨(readT false s).toArray⟩, .int .i64 (readC false s)]) ∧ Below w.heap.size w w' := by
  have HC := Aside.mk (read_fn s false hs w p hE)
  clear hE
  go_enter Tryz.func140, Tryz.ntmps140
  go_wp2_with fail
  refine HC.out.mono ?_
  rintro e w1 ⟨rfl, hb⟩
  have HB := Aside.mk hb
  clear hb
  go_wp2
  go_ret2
  exact ⟨rfl, HB.out⟩
end Go.Proofs.YtiafggoaedifdaaGreatDoor.Esc
/- filt, walked: values read (esc.ReadFilter). Conditions: texts of at most 10^8 bytes. -/
namespace Go.Proofs.YtiafggoaedifdaaGreatDoor.Fi
open Go.RowKit Go.Shelf Go.Lib Fl
set_option linter.unusedVariables false
variable (p : Nat → Addr)
theorem readFilter_fn (s : ByteArray) (hs : s.size ≤ 100000000) : Fn Tryz.prog (envX p) 140 [.v (.str s)] (.tup [.v (.str (bt' (Esc.readT false s))), .v (.int .i64 (Esc.readC false s))]) := by
  refine ⟨enter_of (by kernel_rfl), fun w L vs hE hL ha => ?_⟩
  obtain ⟨v, rfl, h⟩ := one_arg ha
  rw [show v = .string s from h]
  refine (Esc.readFilter_calls s hs w p hE).mono ?_
  rintro e w' ⟨rfl, hb⟩
  exact ⟨_, L, rfl, hb, Same.of_below hb, .inl, fun hl => (by obtain ⟨u, hu⟩ := hL hl; exact ⟨u, cell_below hu hb⟩), ⟨_, rfl, _, _, rfl, rfl, _, _, rfl, rfl, rfl⟩⟩
end Go.Proofs.YtiafggoaedifdaaGreatDoor.Fi
/- filt, walked: values. Conditions: texts of at most 10^6 bytes. -/
namespace Go.Proofs.YtiafggoaedifdaaGreatDoor.Fi
open Go.RowKit Go.Shelf Go.Lib Fl
set_option linter.unusedVariables false
variable (p : Nat → Addr)
/-! ### values -/
def badAt : List ByteArray → Nat
  | [] => 0
  | s :: r => match readV (bl s) with
    | some _ => badAt r + 1
    | none => 0
def valuesT (l : List ByteArray) : T := match Dn.allM (fun s => readV (bl s)) l with
  | some vs => .tup [.v (.sl (vs.map encS)), .v .nili]
  | none => .tup [.v .nils, .v (fErr (badAt l))]
theorem allM_take : ∀ (l : List ByteArray) (i : Nat) (vs : List ByteArray), Dn.allM (fun s => readV (bl s)) (l.take i) = some vs → i ≤ l.length → vs.length = i ∧ (∀ h : i < l.length, ∀ v, readV (bl l[i]) = some v → Dn.allM (fun s => readV (bl s)) (l.take (i + 1)) = some (vs ++ [v])) ∧ (∀ h : i < l.length, readV (bl l[i]) = none → Dn.allM (fun s => readV (bl s)) l = none ∧ badAt l = i)
  | l, 0, vs, h, _ => by
    rw [List.take_zero] at h
    cases h
    refine ⟨rfl, fun h v hv => ?_, fun h hv => ?_⟩
    · cases l with
      | nil => simp at h
      | cons s r => simp at hv; simp [Dn.allM, hv]
    · cases l with
      | nil => simp at h
      | cons s r => simp at hv; simp [Dn.allM, badAt, hv]
  | [], i + 1, vs, h, hi => by simp at hi
  | s :: r, i + 1, vs, h, hi => by
    rw [List.take_succ_cons, Dn.allM] at h
    cases hs : readV (bl s) with
    | none => rw [hs] at h; cases h
    | some v =>
      rw [hs] at h
      dsimp only at h
      obtain ⟨ws, hw, rfl⟩ := Option.map_eq_some_iff.1 h
      obtain ⟨h1, h2, h3⟩ := allM_take r i ws hw (by simpa using hi)
      refine ⟨by simp [h1], fun hl u hu => ?_, fun hl hu => ?_⟩
      · have := h2 (by simpa using hl) u (by simpa using hu)
        rw [List.take_succ_cons, Dn.allM, hs]
        simp [this]
      · obtain ⟨h4, h5⟩ := h3 (by simpa using hl) (by simpa using hu)
        rw [Dn.allM, hs, badAt, hs]
        simp [h4, h5]
theorem values_fn (l : List ByteArray) (hl : l.length ≤ 1000000000) (hs : ∀ s ∈ l, s.size ≤ 100000000) : Fn Tryz.prog (envX p) 126 [.v (.sl (l.map encS))] (valuesT l) := by
  refine fn_prog tabOk mixed Tryz.f126 Tryz.func126 (by kernel_rfl) (by kernel_rfl) ?_
  conv => whnf
  refine ⟨Nat × List ByteArray, fun x => ⟨32, [(4, .own 4 9 (x.2.map encS)), (9, .v (.sl (l.map encS))), (10, .v (.int .i64 ((l.map encS).length : Nat))), (11, .v (.int .i64 (x.1 : Nat)))], [], [(4, some 9)]⟩, fun x => x.1 ≤ l.length ∧ Dn.allM (fun s => readV (bl s)) (l.take x.1) = some x.2, fun x => l.length - x.1, ⟨(0, []), [(4, none)], ⟨by dsimp only; omega, rfl⟩, ?_⟩, fun x ⟨hi, ha⟩ => ?_⟩
  · exact ⟨rfl, rfl, ⟨⟨rfl, rfl, rfl⟩, .inl rfl, .inl rfl, .inl rfl, trivial⟩, trivial, ⟨trivial, trivial⟩⟩
  obtain ⟨i, vs⟩ := x
  dsimp only at hi ha
  obtain ⟨hv, hok, hbad⟩ := allM_take l i vs ha hi
  conv => whnf
  refine ⟨rfl, cmp_split (fun h => ?_) (fun h => ?_)⟩
  · rw [List.length_map] at h
    have hil : i < l.length := by omega
    conv => whnf
    refine st_idx hil rfl ?_
    conv => whnf
    have hrf := readFilter_fn p l[i] (hs _ (List.getElem_mem hil))
    unfold Esc.readT Esc.readC at hrf
    cases hr : Esc.readL false l[i] with
    | some t =>
      rw [hr] at hrf
      simp only [Option.getD_some, Option.isSome_some, if_true] at hrf
      have hrv : readV (bl l[i]) = some (bt' t) := by unfold readV; rw [bl_bt, hr]; rfl
      (refine st_call hrf ?_ rfl rfl ?_; (focus ((repeat' (first | exact trivial | exact rfl | exact Or.inl rfl | exact Or.inr ⟨rfl, rfl⟩ | refine And.intro ?_ ?_)); done)); conv => whnf)
      refine ⟨rfl, cmp_false (fun h => h rfl) ?_⟩
      conv => whnf
      refine st_app (by rw [List.length_map]; simp; omega) (by intro c hc; simp at hc; rw [hc]; rfl) (zs := (vs ++ [bt' t]).map encS) (by rw [List.map_append]; rfl) ?_
      conv => whnf
      refine ⟨rfl, st_succ (by omega) ?_⟩
      conv => whnf
      exact ⟨(i + 1, vs ++ [bt' t]), [(4, some 29)], ⟨by dsimp only; omega, hok hil _ hrv⟩, by dsimp only; omega, ⟨rfl, rfl, ⟨⟨rfl, rfl, rfl⟩, .inl rfl, .inl rfl, .inl rfl, trivial⟩, trivial, ⟨rfl, trivial⟩⟩⟩
    | none =>
      rw [hr] at hrf
      simp only [Option.getD_none, Option.isSome_none, Bool.false_eq_true, if_false] at hrf
      have hrv : readV (bl l[i]) = none := by unfold readV; rw [bl_bt, hr]; rfl
      obtain ⟨h4, h5⟩ := hbad hil hrv
      (refine st_call hrf ?_ rfl rfl ?_; (focus ((repeat' (first | exact trivial | exact rfl | exact Or.inl rfl | exact Or.inr ⟨rfl, rfl⟩ | refine And.intro ?_ ?_)); done)); conv => whnf)
      refine ⟨rfl, cmp_true (by decide) ?_⟩
      conv => whnf
      unfold valuesT
      rw [h4, h5]
      conv => whnf
      exact ⟨⟨.inl rfl, .inl rfl, trivial⟩, rfl⟩
  · rw [List.length_map] at h
    conv => whnf
    rw [List.take_of_length_le (by omega)] at ha
    unfold valuesT
    rw [ha]
    conv => whnf
    exact ⟨⟨rfl, .inl rfl, trivial⟩, rfl⟩
/-! ### a text's end -/
def sufB (s t : ByteArray) : Bool := decide (t.size ≤ s.size) && decide (s.extract (s.size - t.size) s.size = t)
def cutE (s : ByteArray) (t : ByteArray) : ByteArray := if sufB s t = true then s.extract 0 (s.size - t.size) else s
theorem suf_fn {X : En} (s t : ByteArray) (hs : s.size ≤ 100000000) (ht : t.size ≤ 100000000) : Fn Tryz.prog X 153 [.v (.str s), .v (.str t)] (.v (.bool (sufB s t))) := by
  refine fn_prog tabOk mixed Tryz.f153 Tryz.func153 (by kernel_rfl) (by kernel_rfl) ?_
  conv => whnf
  refine ⟨rfl, cmp_split (fun h => ?_) (fun h => ?_)⟩
  · conv => whnf
    refine st_minus s.size t.size (by omega) (by omega) ?_
    conv => whnf
    refine st_cut (s.size - t.size) s.size rfl rfl (by omega) (by omega) ?_
    conv => whnf
    refine cmp_split (fun h2 => ?_) (fun h2 => ?_)
    all_goals
      conv => whnf
      exact ⟨.inl (congrArg V.bool (by unfold sufB; rw [decide_eq_true (by omega)]; simp [h2])), rfl⟩
  · conv => whnf
    exact ⟨.inl (congrArg V.bool (by unfold sufB; rw [decide_eq_false (by omega)]; rfl)), rfl⟩
theorem cutSuf2_fn {X : En} (s t : ByteArray) (hs : s.size ≤ 100000000) (ht : t.size ≤ 100000000) : Fn Tryz.prog X 139 [.v (.str s), .v (.str t)] (.tup [.v (.str (cutE s t)), .v (.bool (sufB s t))]) := by
  refine fn_prog tabOk mixed Tryz.f139 Tryz.func139 (by kernel_rfl) (by kernel_rfl) ?_
  conv => whnf
  refine st_callB (suf_fn s t hs ht) ⟨.inl rfl, .inl rfl, trivial⟩ rfl (fun h => ?_) (fun h => ?_)
  · conv => whnf
    have hle : t.size ≤ s.size := by unfold sufB at h; rw [Bool.and_eq_true] at h; exact of_decide_eq_true h.1
    refine st_minus s.size t.size hle (by omega) ?_
    conv => whnf
    refine st_cut 0 (s.size - t.size) rfl rfl (by omega) (by omega) ?_
    conv => whnf
    unfold cutE
    rw [h, if_pos rfl]
    exact ⟨⟨.inl rfl, .inl rfl, trivial⟩, rfl⟩
  · conv => whnf
    unfold cutE
    rw [h, if_neg (by decide)]
    exact ⟨⟨.inl rfl, .inl rfl, trivial⟩, rfl⟩
theorem cutSuf_fn {X : En} (s t : ByteArray) (hs : s.size ≤ 100000000) (ht : t.size ≤ 100000000) : Fn Tryz.prog X 125 [.v (.str s), .v (.str t)] (.tup [.v (.str (cutE s t)), .v (.bool (sufB s t))]) := by
  refine fn_prog tabOk mixed Tryz.f125 Tryz.func125 (by kernel_rfl) (by kernel_rfl) ?_
  conv => whnf
  (refine st_call (cutSuf2_fn s t hs ht) ?_ rfl rfl ?_; (focus ((repeat' (first | exact trivial | exact rfl | exact Or.inl rfl | exact Or.inr ⟨rfl, rfl⟩ | refine And.intro ?_ ?_)); done)); conv => whnf)
  exact ⟨⟨.inl rfl, .inl rfl, trivial⟩, rfl⟩
end Go.Proofs.YtiafggoaedifdaaGreatDoor.Fi
/- filt, plain: sets read as a loop; what is read is the beginning of a text. No program. -/
namespace Go.Proofs.YtiafggoaedifdaaGreatDoor.Fl
open Go.Lib
set_option linter.unusedVariables false
theorem cutL_app (c : UInt8) : ∀ (r s t : List UInt8), cutL c r = some (s, t) → r = s ++ c :: t
  | [], s, t, h => by cases h
  | x :: r, s, t, h => by
    rw [cutL] at h
    by_cases hx : x = c
    · rw [if_pos hx] at h; cases h; rw [hx]; rfl
    · rw [if_neg hx] at h
      obtain ⟨⟨s', t'⟩, h1, h2⟩ := Option.map_eq_some_iff.1 h
      cases h2
      rw [cutL_app c r s' t' h1]; rfl
/-- what is read is not nothing -/
def Eats (rd : List UInt8 → Option (Flt × List UInt8)) : Prop := ∀ r x t, rd r = some (x, t) → ∃ p, p ≠ [] ∧ r = p ++ t
theorem loop_suf {rd : List UInt8 → Option (Flt × List UInt8)} (h : Eats rd) : ∀ (n : Nat) (r : List UInt8) (l : List Flt) (t : List UInt8), loopL rd n r = some (l, t) → ∃ p, r = p ++ t
  | 0, r, l, t, e => by rw [loopL] at e; cases e; exact ⟨[], rfl⟩
  | n + 1, r, l, t, e => by
    unfold loopL at e
    split at e
    · split at e
      · rename_i x r' hr
        obtain ⟨⟨l', t'⟩, h1, h2⟩ := Option.map_eq_some_iff.1 e
        cases h2
        obtain ⟨p, hp⟩ := loop_suf h n r' l' t' h1
        obtain ⟨q, _, hq⟩ := h _ _ _ hr
        exact ⟨q ++ p, by rw [hq, hp, List.append_assoc]⟩
      · cases e
    · cases e; exact ⟨[], rfl⟩
theorem loop_fuel {rd : List UInt8 → Option (Flt × List UInt8)} (h : Eats rd) : ∀ (n m : Nat) (r : List UInt8), r.length ≤ n → r.length ≤ m → loopL rd n r = loopL rd m r
  | 0, 0, r, _, _ => rfl
  | 0, m + 1, r, hn, _ => by
    have : r = [] := List.eq_nil_of_length_eq_zero (Nat.le_zero.1 hn)
    subst this
    rfl
  | n + 1, 0, r, _, hm => by
    have : r = [] := List.eq_nil_of_length_eq_zero (Nat.le_zero.1 hm)
    subst this
    rfl
  | n + 1, m + 1, r, hn, hm => by
    unfold loopL
    split
    · split
      · rename_i x r' hr
        obtain ⟨q, hq0, hq⟩ := h _ _ _ hr
        have h1 := congrArg List.length hq
        rw [List.length_append] at h1
        have h0 : q.length ≠ 0 := fun e => hq0 (List.eq_nil_of_length_eq_zero e)
        simp only [List.length_cons] at *
        rw [loop_fuel h n m r' (by omega) (by omega)]
      · rfl
    · rfl
/-- a set's filters, from a place on -/
def loopW (rd : List UInt8 → Option (Flt × List UInt8)) (r : List UInt8) : Option (List Flt × List UInt8) := loopL rd r.length r
theorem loop_in {rd : List UInt8 → Option (Flt × List UInt8)} (h : Eats rd) (r r' : List UInt8) (x : Flt) (h0 : r.head? = some 40) (hr : rd r = some (x, r')) : loopW rd r = (loopW rd r').map fun p => (x :: p.1, p.2) := by
  obtain ⟨q, hq0, hq⟩ := h _ _ _ hr
  have h1 : q.length ≠ 0 := fun e => hq0 (List.eq_nil_of_length_eq_zero e)
  have h2 := congrArg List.length hq
  rw [List.length_append] at h2
  unfold loopW
  cases r with
  | nil => cases h0
  | cons c r0 =>
    have hc : c = 40 := by simpa using h0
    subst hc
    rw [List.length_cons] at *
    rw [loopL, hr]
    dsimp only
    rw [loop_fuel h r0.length r'.length r' (by omega) (Nat.le_refl _)]
theorem loop_bad {rd : List UInt8 → Option (Flt × List UInt8)} (r : List UInt8) (h0 : r.head? = some 40) (hr : rd r = none) : loopW rd r = none := by
  unfold loopW
  cases r with
  | nil => cases h0
  | cons c r0 =>
    have hc : c = 40 := by simpa using h0
    subst hc
    rw [List.length_cons, loopL, hr]
theorem loop_out (rd : List UInt8 → Option (Flt × List UInt8)) (r : List UInt8) (h0 : r.head? ≠ some 40) : loopW rd r = some ([], r) := by
  unfold loopW
  cases r with
  | nil => rfl
  | cons c r0 =>
    have hc : c ≠ 40 := by simpa using h0
    rw [List.length_cons]
    unfold loopL
    split
    · rename_i e; injection e with e; exact absurd e hc
    · rfl
theorem set_some {rd : List UInt8 → Option (Flt × List UInt8)} {k : Int} {r : List UInt8} {f : Flt} {t : List UInt8} (h : setK rd k r = some (f, t)) : ∃ l, loopW rd r = some (l, 41 :: t) ∧ f = .mk k (bt' []) (bt' []) [] (bt' []) l := by
  unfold setK at h
  split at h
  · rename_i l t' hl
    cases h
    exact ⟨l, hl, rfl⟩
  · cases h
theorem rd_eats : ∀ d : Nat, Eats (rdF d)
  | 0 => fun r x t h => by cases h
  | d + 1 => fun r x t h => by
    have hs : ∀ (k : Int) (r0 : List UInt8), setK (rdF d) k r0 = some (x, t) → ∃ p, r0 = p ++ t := fun k r0 h => by
      obtain ⟨l, hl, _⟩ := set_some h
      obtain ⟨p, hp⟩ := loop_suf (rd_eats d) _ _ _ _ hl
      exact ⟨p ++ [41], by rw [hp, List.append_assoc]; rfl⟩
    unfold rdF at h
    split at h
    · split at h
      · obtain ⟨p, hp⟩ := hs _ _ h; exact ⟨40 :: 38 :: p, by simp, by rw [hp]; rfl⟩
      · obtain ⟨p, hp⟩ := hs _ _ h; exact ⟨40 :: 124 :: p, by simp, by rw [hp]; rfl⟩
      · obtain ⟨p, hp⟩ := hs _ _ h; exact ⟨40 :: 33 :: p, by simp, by rw [hp]; rfl⟩
      · split at h
        · rename_i s t' hc
          obtain ⟨f, _, h2⟩ := Option.map_eq_some_iff.1 h
          cases h2
          exact ⟨40 :: (s ++ [41]), by simp, by rw [cutL_app _ _ _ _ hc]; simp⟩
        · cases h
    · cases h
end Go.Proofs.YtiafggoaedifdaaGreatDoor.Fl
