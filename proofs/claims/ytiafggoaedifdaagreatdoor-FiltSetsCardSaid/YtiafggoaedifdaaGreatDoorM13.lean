/- Several texts, one behind the other. filt, walked: whether a text stands at a reader's place. Conditions: texts of at most 10^6 bytes. Contracts of functions of Go's library, as the kit's shelf proves them of whatever program, at this program's numbers. Each states its own conditions. What the walks ask of the package-level variables: the sentinel errors, MaxLen's number, the decoder's two tables. It lives on in later worlds. utf.Right: is a text right? (its walk over signs). Conditions: the decoder's tables are laid; at most 10^9 bytes. Values in memory: how numbers, texts, structs and slices of them stand in cells; that they stand so in later worlds; what is appended to a list of the function's own; what came in. Of whatever program. Plain laws on texts, their runes and bytes. No program. Slices of bytes: that they read as lists; texts made of them, and they of texts. Conditions: the shape of memory that each theorem names. -/
import Derived.Test.YtiafggoaedifdaaGreatDoorM11
import Derived.Test.YtiafggoaedifdaaGreatDoorM12
import Derived.Shelf.Unicode.DecodeAny
import Derived.Shelf.Small.Utf8
import Derived.Test.YtiafggoaedifdaaGreatDoorProg
import Derived.Test.YtiafggoaedifdaaGreatDoorM01
import Derived.Shelf.Unicode.DecodeSlow
import Derived.Test.YtiafggoaedifdaaGreatDoorM08
import Derived.Lib.TrimU
import Derived.Lib.OthersKept
import Derived.Lib.RuneCountTail
import Derived.Deep.LoopGhost
import Derived.Laws.AppendOwn
import Derived.Deep.Upon
import Derived.ChangeSlices
import Derived.OwnWalkIn
import Derived.Maps.AppendAt
import Derived.Deep.AppendLies
import Derived.Shelf.GgClosure.StringsIndexFunc
import Derived.Laws.RangeAny
import Derived.Laws.BytesArg
import Derived.Laws.BytesString
import Derived.Laws.IdiomStrings
import Derived.Lib.ConvBytes
/- filt, walked: whether a text stands at a reader's place. Conditions: texts of at most 10^6 bytes. -/
namespace Go.Proofs.YtiafggoaedifdaaGreatDoor.Fi
open Go.RowKit
set_option linter.unusedVariables false
variable {X : En}
def preB (s t : ByteArray) : Bool := decide (t.size ≤ s.size) && decide (s.extract 0 t.size = t)
theorem prefix2_fn (s t : ByteArray) : Fn Tryz.prog X 152 [.v (.str s), .v (.str t)] (.v (.bool (preB s t))) := by
  refine fn_prog tabOk mixed Tryz.f152 Tryz.func152 (by kernel_rfl) (by kernel_rfl) ?_
  conv => whnf
  refine ⟨rfl, cmp_split (fun h => ?_) (fun h => ?_)⟩
  · conv => whnf
    refine st_cut 0 t.size rfl rfl (by omega) (by omega) ?_
    conv => whnf
    refine cmp_split (fun h2 => ?_) (fun h2 => ?_)
    all_goals
      conv => whnf
      exact ⟨.inl (congrArg V.bool (by unfold preB; rw [decide_eq_true (by omega)]; simp [h2])), rfl⟩
  · conv => whnf
    exact ⟨.inl (congrArg V.bool (by unfold preB; rw [decide_eq_false (by omega)]; rfl)), rfl⟩
theorem prefix_fn (s t : ByteArray) : Fn Tryz.prog X 138 [.v (.str s), .v (.str t)] (.v (.bool (preB s t))) := by
  refine fn_prog tabOk mixed Tryz.f138 Tryz.func138 (by kernel_rfl) (by kernel_rfl) ?_
  conv => whnf
  (refine st_call (prefix2_fn s t) ?_ rfl rfl ?_; (focus ((repeat' (first | exact trivial | exact rfl | exact Or.inl rfl | exact Or.inr ⟨rfl, rfl⟩ | refine And.intro ?_ ?_)); done)); conv => whnf)
  exact ⟨.inl rfl, rfl⟩
/-- a reader's variable -/
def rdC (s : ByteArray) (a : Nat) : List T := [.v (.str s), .v (.int .i64 (a : Nat))]
def atB (s : ByteArray) (a : Nat) (t : ByteArray) : Bool := preB (s.extract a s.size) t
theorem is_fn (s : ByteArray) (a : Nat) (ha : a ≤ s.size) (t : ByteArray) : FnM Tryz.prog X 122 [rdC s a] [.ptr 0 0, .v (.str t)] (.v (.bool (atB s a t))) [rdC s a] := by
  refine fnM_prog tabOk mixed Tryz.f122 Tryz.func122 (by kernel_rfl) (by kernel_rfl) rfl rfl rfl rfl ?_
  conv => whnf
  refine ⟨none, by kernel_rfl, ?_⟩; conv => whnf
  refine st_cut a s.size rfl rfl ha (by omega) ?_
  conv => whnf
  (refine st_call (prefix_fn (s.extract a s.size) t) ?_ rfl rfl ?_; (focus ((repeat' (first | exact trivial | exact rfl | exact Or.inl rfl | exact Or.inr ⟨rfl, rfl⟩ | refine And.intro ?_ ?_)); done)); conv => whnf)
  exact ⟨⟨.inl rfl, rfl⟩, ⟨⟨.inl rfl, .inl rfl, trivial⟩, trivial⟩⟩
theorem preB_size {s t : ByteArray} (h : preB s t = true) : t.size ≤ s.size := by
  unfold preB at h
  rw [Bool.and_eq_true] at h
  exact of_decide_eq_true h.1
theorem atB_size {s t : ByteArray} {a : Nat} (h : atB s a t = true) (ha : a ≤ s.size) : a + t.size ≤ s.size := by
  have := preB_size h
  rw [ByteArray.size_extract] at this
  omega
theorem takes_fn (s : ByteArray) (hs : s.size ≤ 100000000) (a : Nat) (ha : a ≤ s.size) (t : ByteArray) : FnM Tryz.prog X 94 [rdC s a] [.ptr 0 0, .v (.str t)] (.v (.bool (atB s a t))) [rdC s (if atB s a t = true then a + t.size else a)] := by
  refine fnM_prog tabOk mixed Tryz.f94 Tryz.func94 (by kernel_rfl) (by kernel_rfl) rfl rfl rfl rfl ?_
  conv => whnf
  have hi := is_fn (X := X) s a ha t
  cases hb : atB s a t
  · rw [hb] at hi
    (refine st_callM [18] (hi) rfl ?_ ?_ rfl ?_; (focus ((repeat' (first | exact trivial | exact rfl | exact Or.inl rfl | exact Or.inr ⟨rfl, rfl⟩ | refine And.intro ?_ ?_)); done)); (focus ((repeat' (first | exact trivial | exact rfl | exact Or.inl rfl | exact Or.inr ⟨rfl, rfl⟩ | refine And.intro ?_ ?_)); done)); conv => whnf)
    exact ⟨⟨.inl rfl, rfl⟩, ⟨⟨.inl rfl, .inl rfl, trivial⟩, trivial⟩⟩
  · rw [hb] at hi
    have hsz := atB_size hb ha
    (refine st_callM [18] (hi) rfl ?_ ?_ rfl ?_; (focus ((repeat' (first | exact trivial | exact rfl | exact Or.inl rfl | exact Or.inr ⟨rfl, rfl⟩ | refine And.intro ?_ ?_)); done)); (focus ((repeat' (first | exact trivial | exact rfl | exact Or.inl rfl | exact Or.inr ⟨rfl, rfl⟩ | refine And.intro ?_ ?_)); done)); conv => whnf)
    refine st_add a t.size (by omega) ?_
    conv => whnf
    exact ⟨⟨.inl rfl, rfl⟩, ⟨⟨.inl rfl, .inl rfl, trivial⟩, trivial⟩⟩
end Go.Proofs.YtiafggoaedifdaaGreatDoor.Fi
/- Contracts of functions of Go's library, as the kit's shelf proves them of whatever program, at this program's numbers. Each states its own conditions. -/
namespace Go.Proofs.YtiafggoaedifdaaGreatDoor
open Go.Shelf
def Shelf.Laysn197_ren : Go.Shelf.Ren := ⟨fun | 197 => 128 | 260 => 141 | n => n, fun | 0 => 0 | 3 => 3 | 4 => 4 | 5 => 5 | 9 => 9 | 21 => 21 | 46 => 74 | 105 => 200 | 119 => 225 | 138 => 227 | 139 => 228 | n => n, fun | 3 => 11 | 4 => 12 | n => n⟩
theorem Shelf.Laysn197 : Go.Proofs.Lays.n197 Tryz.prog Shelf.Laysn197_ren := {
  mixed := by kernel_rfl
  f197 := Tryz.func128.trans (congrArg some (by kernel_rfl))
  f260 := Tryz.func141.trans (congrArg some (by kernel_rfl))
  t0 := Tryz.underlying0
  a0 := Tryz.isAgg0
  z0 := Tryz.sizeOf0
  v0 := Tryz.zeroValue0
  t3 := Tryz.underlying3
  a3 := Tryz.isAgg3
  z3 := Tryz.sizeOf3
  v3 := Tryz.zeroValue3
  t4 := Tryz.underlying4
  a4 := Tryz.isAgg4
  z4 := Tryz.sizeOf4
  v4 := Tryz.zeroValue4
  t5 := Tryz.underlying5
  a5 := Tryz.isAgg5
  z5 := Tryz.sizeOf5
  v5 := Tryz.zeroValue5
  t9 := Tryz.underlying9
  a9 := Tryz.isAgg9
  z9 := Tryz.sizeOf9
  v9 := Tryz.zeroValue9
  t21 := Tryz.underlying21
  a21 := Tryz.isAgg21
  z21 := Tryz.sizeOf21
  v21 := Tryz.zeroValue21
  t46 := Tryz.underlying74
  a46 := Tryz.isAgg74
  z46 := Tryz.sizeOf74
  v46 := Tryz.zeroValue74
  t105 := Tryz.underlying200
  a105 := Tryz.isAgg200
  z105 := Tryz.sizeOf200
  v105 := Tryz.zeroValue200
  t119 := Tryz.underlying225
  a119 := Tryz.isAgg225
  z119 := Tryz.sizeOf225
  t138 := Tryz.underlying227
  a138 := Tryz.isAgg227
  z138 := Tryz.sizeOf227
  v138 := Tryz.zeroValue227
  t139 := Tryz.underlying228
  a139 := Tryz.isAgg228
  z139 := Tryz.sizeOf228
  v139 := Tryz.zeroValue228
  g3 := by kernel_rfl
  g4 := by kernel_rfl }
open Go.RowKit Go.Lib in
theorem Shelf.utf8_DecodeRuneInString  (s : ByteArray) (w : World) (hT : Lib.Utf8Tabs 11 12 w) :
    Calls Tryz.prog 128 #[.string s] w fun e w' => e = .returned (.tuple #[.int .i32 (Lib.decodeGo s).1, .int .i64 (Lib.decodeGo s).2]) ∧ Below w.heap.size w w' := Any.utf8_DecodeRuneInString Shelf.Laysn197  s w hT
def Shelf.Laysn119_ren : Go.Shelf.Ren := ⟨fun | 119 => 173 | n => n, fun | 4 => 4 | 21 => 21 | n => n, fun  | n => n⟩
theorem Shelf.Laysn119 : Go.Proofs.Lays.n119 Tryz.prog Shelf.Laysn119_ren := {
  mixed := by kernel_rfl
  f119 := Tryz.func173.trans (congrArg some (by kernel_rfl))
  t4 := Tryz.underlying4
  a4 := Tryz.isAgg4
  z4 := Tryz.sizeOf4
  v4 := Tryz.zeroValue4
  t21 := Tryz.underlying21
  a21 := Tryz.isAgg21
  z21 := Tryz.sizeOf21
  v21 := Tryz.zeroValue21 }
theorem Shelf.utf8_ValidRune  (r : Int) (w : World) :
    Calls Tryz.prog 173 #[.int .i32 r] w fun e w' => e = .returned (.bool (Lib.validRune r)) ∧ w' = w := Any.utf8_ValidRune Shelf.Laysn119  r w
end Go.Proofs.YtiafggoaedifdaaGreatDoor
/- What the walks ask of the package-level variables: the sentinel errors, MaxLen's number, the decoder's two tables. It lives on in later worlds. -/
namespace Go.Proofs.YtiafggoaedifdaaGreatDoor
open Go.RowKit
structure Env (w : World) (p : Nat → Addr) : Prop where
  gl : Globs w p
  ml : ∃ m, w.cell? ⟨7, 0, none⟩ = some (.int .i64 m)
  ut : Lib.Utf8Tabs 11 12 w
theorem tabs_below {w w' : World} (h : Lib.Utf8Tabs 11 12 w) (hb : Below w.heap.size w w') : Lib.Utf8Tabs 11 12 w' :=
  ⟨fun c hc => cell_below (h.1 c hc) hb, fun i hi => ⟨cell_below (h.2 i hi).1 hb, cell_below (h.2 i hi).2 hb⟩⟩
theorem Env.below {w w' : World} {p : Nat → Addr} (h : Env w p) (hb : Below w.heap.size w w') : Env w' p where
  gl := h.gl.below hb
  ml := h.ml.imp fun _ hm => cell_below hm hb
  ut := tabs_below h.ut hb
end Go.Proofs.YtiafggoaedifdaaGreatDoor
/- utf.Right: is a text right? (its walk over signs). Conditions: the decoder's tables are laid; at most 10^9 bytes. -/
namespace Go.Proofs.YtiafggoaedifdaaGreatDoor.Utf
open Go.RowKit Go.Lib
set_option linter.unusedVariables false
/-- no sign from a place on is wrong -/
def utfR (s : ByteArray) : Nat → Nat → Bool
  | 0, _ => true
  | f + 1, pos => if pos < s.size then (if (Utf8.decode s pos).1 == 65533 && (Utf8.decode s pos).2 == 1 then false else utfR s f (pos + (Utf8.decode s pos).2)) else true
def utfB (s : ByteArray) : Bool := utfR s s.size 0
theorem decode_tail (s : ByteArray) (pos : Nat) (h : pos < s.size) : Lib.decodeGo (s.extract pos s.size) = Utf8.decode s pos := by
  unfold Lib.decodeGo
  rw [if_neg (by rw [Lib.tail_size]; omega), Lib.tail_decode, Nat.add_zero]
attribute [local go_sem] Oper.semAt_some
/-- what the walk over signs leaves: J holds, or J and the error's cell set -/
def Walked (J : World → Prop) (E : Addr) (s : ByteArray) (W : World) : Prop :=
  (utfB s = true ∧ J W) ∨ (utfB s = false ∧ ∃ (n : Int) (W1 : World), J W1 ∧ W = W1.setCell E (.iface 261 (.agg #[.int .i64 n])))
set_option maxHeartbeats 4000000 in
theorem signs_iter {l0 Tx Ex K : Nat} {E : Addr} {s : ByteArray} (hs : s.size ≤ 1000000000) (J : World → Prop)
    (hJt : ∀ W, J W → W.cell? ⟨Tx, 0, none⟩ = some (.string s)) (hJe : ∀ W, J W → W.cell? ⟨Ex, 0, none⟩ = some (.pointer (some E))) (hJE : ∀ W, J W → ∃ v, W.cell? E = some v) (hJf : ∀ W, J W → W.frozen? E = false)
    (hJu : ∀ W, J W → Lib.Utf8Tabs 11 12 W) (hJb : ∀ W W', J W → Below K W W' → J W') (hJs : ∀ W, J W → K ≤ W.heap.size)
    (hY : ∀ (k r : Int) W, J W → ∃ fn tmps assign body, (Instr.yield l0 #[.int .i64 k, .int .i32 r]).run Tryz.prog W = .ok (.round l0 fn tmps assign body) W ∧ RoundIn Fence.wide 0 Tryz.prog l0 fn tmps assign body W (fun e W' => e = .returned (.bool true) ∧ J W' ∧ ∀ j, K ≤ j → W'.heap[j]? = W.heap[j]?))
    (W : World) (h0 : J W) (hK : W.heap.size = K) :
    Calls Tryz.prog 175 #[.func (.yield l0) #[] #[], .pointer (some ⟨Tx, 0, none⟩), .pointer (some ⟨Ex, 0, none⟩)] W fun e W' => (∃ v, e = .returned v) ∧ Walked J E s W' := by
  have c0 := hJt W h0
  subst hK
  go_enter Tryz.func175, Tryz.ntmps175
  go_wp2
  go_step3
  go_wp2
  go_step3
  go_wp2
  go_loopg [] s.size (fun gk wr => Aside (∃ pos : Nat, wr.heap[W.heap.size]? = some (.stringIter s pos) ∧ J wr ∧ s.size ≤ pos + gk ∧ utfR s gk pos = utfB s))
  case atStart => exact ⟨⟨0, World.iter_heap W s 0, hJb _ _ h0 (below_new _ _), by omega, rfl⟩⟩
  case round =>
    obtain ⟨pos, hit, hj, hgk, hu⟩ := hrel.out
    clear hrel c0
    have HU := Aside.mk hu
    have HJ := Aside.mk hj
    clear hu hj
    by_cases hp : pos < s.size
    · obtain ⟨m, rfl⟩ : ∃ m, gk = m + 1 := ⟨gk - 1, by omega⟩
      have hnx : ∀ ty, (Instr.next (.pointer (some ⟨W.heap.size, 0, none⟩)) true ty).run Tryz.prog wr = _ := fun ty => Lib.run_next_any_at wr W.heap.size s pos ty hit hp
      have HW1 := Aside.mk (Lib.width_pos s pos)
      have HD := Aside.mk (decode_tail s pos hp)
      have HST := Aside.mk (show utfB s = (if (Utf8.decode s pos).1 == 65533 && (Utf8.decode s pos).2 == 1 then false else utfR s m (pos + (Utf8.decode s pos).2)) by rw [← HU.out]; simp [utfR, hp])
      generalize Utf8.decode s pos = d at hnx HW1 HD HST
      obtain ⟨r, wd⟩ := d
      obtain ⟨w2, hw2⟩ : ∃ w2, wr.iterAt W.heap.size s (pos + wd) = w2 := ⟨_, rfl⟩
      have hit2 : w2.heap[W.heap.size]? = some (.stringIter s (pos + wd)) := by rw [← hw2]; exact Lib.iterAt_heap wr W.heap.size s pos _ hit
      have hj2 : J w2 := by rw [← hw2]; exact hJb _ _ HJ.out (Lib.below_iterAt (Below.refl _ _) (k := W.heap.size) (Nat.le_refl _) s _)
      have hpi : (0 : Int) ≤ (pos : Int) := by omega
      have hpj : (pos : Int) ≤ (s.size : Int) := by omega
      rw [hw2] at hnx
      clear hw2 hit
      have HI2 := Aside.mk hit2
      have HJ2 := Aside.mk hj2
      have c0 := hJt _ hj2
      have HC := Aside.mk (show Calls Tryz.prog 128 #[.string (s.extract pos s.size)] w2 fun e w' => e = .returned (.tuple #[.int .i32 r, .int .i64 wd]) ∧ Below w2.heap.size w2 w' by
        have := Shelf.utf8_DecodeRuneInString (s.extract pos s.size) w2 (hJu _ hj2)
        rwa [HD.out] at this)
      clear hit2 hj2
      refine (wpIn_wide (n := 1)).1 ?_
      gi_wp2_with fail
      refine ⟨trivial, callsIn_wide.2 (HC.out.mono ?_)⟩
      rintro e w3 ⟨rfl, hb⟩
      have hw2 : W.heap.size < w2.heap.size := (Array.getElem?_eq_some_iff.1 HI2.out).1
      have HI3 := Aside.mk (hb.block W.heap.size hw2 ▸ HI2.out)
      have HJ3 := Aside.mk (hJb _ _ HJ2.out (hb.mono (Nat.le_of_lt hw2)))
      clear hb c0
      by_cases hbad : r = 65533 ∧ wd = 1
      · obtain ⟨rfl, rfl⟩ := hbad
        have HF := Aside.mk (show utfB s = false by rw [HST.out]; rfl)
        have c1 := hJe _ HJ3.out
        obtain ⟨v0, c2⟩ := hJE _ HJ3.out
        have c3 := hJf _ HJ3.out
        clear hnx
        gi_wp2
        rw [Exit.noGoto_normal]
        go_end0
        exact ⟨⟨_, rfl⟩, .inr ⟨HF.out, _, w3, HJ3.out, rfl⟩⟩
      · have HT := Aside.mk (show utfB s = utfR s m (pos + wd) by
          rw [HST.out, if_neg]
          simp only [Bool.and_eq_true, beq_iff_eq]
          exact hbad)
        obtain ⟨fn, tm, asg, bo, hy, hR⟩ := hY pos r w3 HJ3.out
        have HRR := Aside.mk hR
        clear hR hnx
        have hcases : ((r : Int) == 65533) = false ∨ (((r : Int) == 65533) = true ∧ ((wd : Int) == 1) = false) := by
          by_cases h1 : r = 65533
          · right
            have : wd ≠ 1 := fun e => hbad ⟨h1, e⟩
            constructor
            · simp [h1]
            · rw [beq_eq_false_iff_ne]; omega
          · left; rw [beq_eq_false_iff_ne]; omega
        clear hbad
        rcases hcases with h1 | ⟨h1, h2⟩
        all_goals
          gi_wp2_with fail
          refine HRR.out.mono ?_
          rintro e w4 ⟨rfl, hj4, hk4⟩
          have HJ4 := Aside.mk hj4
          have HI4 := Aside.mk ((hk4 _ (Nat.le_refl _)).trans HI3.out)
          clear hj4 hk4 hy
          gi_wp2
          go_roundg m
        all_goals first
          | (case measure => omega)
          | (case rel => exact ⟨pos + wd, HI4.out, HJ4.out, by have := HW1.out; omega, HT.out.symm⟩)
          | skip
    · have HE := Aside.mk (show utfB s = true by
        rw [← HU.out]
        cases gk with
        | zero => rfl
        | succ f => simp [utfR, hp])
      have hnx : ∀ ty, (Instr.next (.pointer (some ⟨W.heap.size, 0, none⟩)) true ty).run Tryz.prog wr = _ := fun ty => Lib.run_next_end_at wr W.heap.size s pos ty hit hp
      clear hp
      go_wp2
      rw [Exit.noGoto_normal]
      go_end0
      exact ⟨⟨_, rfl⟩, .inl ⟨HE.out, HJ.out⟩⟩
end Go.Proofs.YtiafggoaedifdaaGreatDoor.Utf
/- Values in memory: how numbers, texts, structs and slices of them stand in cells; that they stand so in later worlds; what is appended to a list of the function's own; what came in. Of whatever program. -/
namespace Go.Proofs.YtiafggoaedifdaaGreatDoor
open Go.RowKit
set_option linter.unusedVariables false
theorem add_add (a : Addr) (m n : Nat) : (a.add m).add n = a.add (m + n) := by
  unfold Addr.add
  by_cases hm : m = 0
  · subst hm; simp
  · by_cases hn : n = 0
    · subst hn; simp [hm]
    · simp [hm, hn]; omega
theorem add_block (a : Addr) (n : Nat) : (a.add n).block = a.block := by unfold Addr.add; split <;> rfl
theorem add_plain' (b o n : Nat) : (⟨b, o, none⟩ : Addr).add n = ⟨b, o + n, none⟩ := by unfold Addr.add; split <;> simp_all
/-- how an x stands in cells, lying in blocks of av -/
abbrev View (α : Type) := World → (Nat → Prop) → List Value → α → Prop
structure View.Ok {α : Type} (k : Nat) (R : View α) : Prop where
  mono : ∀ {w av av' vs x}, R w av vs x → (∀ b, av b → av' b) → R w av' vs x
  upd : ∀ {w w' S av vs x}, R w av vs x → Upd S w w' → (∀ b, av b → ¬ S b) → R w' av vs x
  bound : ∀ {w av vs x}, R w av vs x → R w (fun b => av b ∧ b < w.heap.size) vs x
  size : ∀ {w av vs x}, R w av vs x → vs.length = k
  one : ∀ {w av vs x}, R w av vs x → ∀ u ∈ vs, u.oneCell' = true
def VStr : View ByteArray := fun _ _ vs x => vs = [.string x]
def VInt : View Int := fun _ _ vs x => vs = [.int .i64 x]
def VBool : View Bool := fun _ _ vs x => vs = [.bool x]
theorem VStr.ok : View.Ok 1 VStr := ⟨fun h _ => h, fun h _ _ => h, fun h => h, fun h => by rw [h]; rfl, fun h u hu => by rw [h] at hu; obtain rfl := List.mem_singleton.1 hu; rfl⟩
theorem VInt.ok : View.Ok 1 VInt := ⟨fun h _ => h, fun h _ _ => h, fun h => h, fun h => by rw [h]; rfl, fun h u hu => by rw [h] at hu; obtain rfl := List.mem_singleton.1 hu; rfl⟩
theorem VBool.ok : View.Ok 1 VBool := ⟨fun h _ => h, fun h _ _ => h, fun h => h, fun h => by rw [h]; rfl, fun h u hu => by rw [h] at hu; obtain rfl := List.mem_singleton.1 hu; rfl⟩
/-- two, one behind the other -/
def VCat {α β : Type} (R : View α) (R' : View β) : View (α × β) := fun w av vs x => ∃ v1 v2, vs = v1 ++ v2 ∧ R w av v1 x.1 ∧ R' w av v2 x.2
theorem VCat.ok {α β : Type} {k k' : Nat} {R : View α} {R' : View β} (h : R.Ok k) (h' : R'.Ok k') : (VCat R R').Ok (k + k') where
  mono := fun ⟨a, b, e, h1, h2⟩ hi => ⟨a, b, e, h.mono h1 hi, h'.mono h2 hi⟩
  upd := fun ⟨a, b, e, h1, h2⟩ hu hi => ⟨a, b, e, h.upd h1 hu hi, h'.upd h2 hu hi⟩
  bound := fun ⟨a, b, e, h1, h2⟩ => ⟨a, b, e, h.bound h1, h'.bound h2⟩
  size := fun ⟨a, b, e, h1, h2⟩ => by rw [e, List.length_append, h.size h1, h'.size h2]
  one := fun ⟨a, b, e, h1, h2⟩ u hu => by
    rw [e] at hu
    rcases List.mem_append.1 hu with hu | hu
    · exact h.one h1 u hu
    · exact h'.one h2 u hu
/-- a slice of some, of k cells each -/
def VSlice {α : Type} (k : Nat) (R : View α) : View (List α) := fun w av vs xs =>
  ∃ A c, vs = [.slice A xs.length c] ∧ xs.length ≤ c ∧ (xs ≠ [] → ∃ b o, A = some ⟨b, o, none⟩ ∧ av b ∧ b < w.heap.size ∧
    ∀ j x, xs[j]? = some x → ∃ ws, R w av ws x ∧ ∀ i u, ws[i]? = some u → w.cell? ⟨b, o + (j * k + i), none⟩ = some u)
theorem VSlice.ok {α : Type} {k : Nat} {R : View α} (h : R.Ok k) : (VSlice k R).Ok 1 where
  mono := fun ⟨A, c, e, hl, hx⟩ hi => ⟨A, c, e, hl, fun hn => by
    obtain ⟨b, o, e1, e2, e3, e4⟩ := hx hn
    exact ⟨b, o, e1, hi _ e2, e3, fun j x hj => by obtain ⟨ws, a, b⟩ := e4 j x hj; exact ⟨ws, h.mono a hi, b⟩⟩⟩
  upd := fun ⟨A, c, e, hl, hx⟩ hu hi => ⟨A, c, e, hl, fun hn => by
    obtain ⟨b, o, e1, e2, e3, e4⟩ := hx hn
    exact ⟨b, o, e1, e2, Nat.lt_of_lt_of_le e3 hu.size, fun j x hj => by
      obtain ⟨ws, a, b⟩ := e4 j x hj
      exact ⟨ws, h.upd a hu hi, fun i u hiu => hu.cell (b i u hiu) (hi _ e2)⟩⟩⟩
  bound := fun ⟨A, c, e, hl, hx⟩ => ⟨A, c, e, hl, fun hn => by
    obtain ⟨b, o, e1, e2, e3, e4⟩ := hx hn
    exact ⟨b, o, e1, ⟨e2, e3⟩, e3, fun j x hj => by obtain ⟨ws, a, b⟩ := e4 j x hj; exact ⟨ws, h.bound a, b⟩⟩⟩
  size := fun ⟨A, c, e, hl, hx⟩ => by rw [e]; rfl
  one := fun ⟨A, c, e, hl, hx⟩ u hu => by rw [e] at hu; obtain rfl := List.mem_singleton.1 hu; rfl
theorem View.Ok.below {α : Type} {k : Nat} {R : View α} (h : R.Ok k) {w w' : World} {av : Nat → Prop} {vs : List Value} {x : α} (hr : R w av vs x) (hb : Below w.heap.size w w') : R w' av vs x :=
  h.upd hr (Upd.of_below (S := fun _ => False) hb) (fun _ _ h => h)
theorem VSlice.nil {α : Type} (k : Nat) (R : View α) (w : World) (av : Nat → Prop) : VSlice k R w av [.slice none 0 0] [] := ⟨none, 0, rfl, Nat.le_refl _, fun h => absurd rfl h⟩
theorem VSlice.open {α : Type} {k : Nat} {R : View α} {w : World} {av : Nat → Prop} {v : Value} {xs : List α} (h : VSlice k R w av [v] xs) : ∃ A c, v = .slice A xs.length c ∧ xs.length ≤ c ∧ (xs ≠ [] → ∃ b o, A = some ⟨b, o, none⟩ ∧ av b ∧ b < w.heap.size ∧
    ∀ j x, xs[j]? = some x → ∃ ws, R w av ws x ∧ ∀ i u, ws[i]? = some u → w.cell? ⟨b, o + (j * k + i), none⟩ = some u) := by
  obtain ⟨A, c, e, hl, hx⟩ := h
  simp only [List.cons.injEq, and_true] at e
  exact ⟨A, c, e, hl, hx⟩
/-- the slice from i on -/
theorem VSlice.drop {α : Type} {k : Nat} {R : View α} {w : World} {av : Nat → Prop} {b o c n : Nat} {xs : List α} (h : VSlice k R w av [.slice (some ⟨b, o, none⟩) n c] xs) (i : Nat) (hi : i ≤ xs.length) :
    VSlice k R w av [.slice (some ⟨b, o + i * k, none⟩) (n - i) (c - i)] (xs.drop i) := by
  obtain ⟨A', c', e, hl, hx⟩ := h
  simp only [List.cons.injEq, Value.slice.injEq, and_true] at e
  obtain ⟨rfl, rfl, rfl⟩ := e
  refine ⟨_, c - i, by rw [List.length_drop], by rw [List.length_drop]; omega, fun hn => ?_⟩
  obtain ⟨b', o', e1, e2, e3, e4⟩ := hx (by rintro rfl; simp at hn)
  simp only [Option.some.injEq, Addr.mk.injEq, and_true] at e1
  obtain ⟨rfl, rfl⟩ := e1
  refine ⟨b, _, rfl, e2, e3, fun j x hj => ?_⟩
  rw [List.getElem?_drop] at hj
  obtain ⟨ws, a, q⟩ := e4 _ x hj
  exact ⟨ws, a, fun i2 u hu => by rw [show o + i * k + (j * k + i2) = o + ((i + j) * k + i2) by rw [Nat.add_mul]; omega]; exact q i2 u hu⟩
theorem VSlice.take {α : Type} {k : Nat} {R : View α} {w : World} {av : Nat → Prop} {A : Option Addr} {c : Nat} {xs : List α} {n : Nat} (h : VSlice k R w av [.slice A n c] xs) (i : Nat) (hi : i ≤ xs.length) (c' : Nat) (hc : i ≤ c') :
    VSlice k R w av [.slice A i c'] (xs.take i) := by
  obtain ⟨A', c1, e, hl, hx⟩ := h
  simp only [List.cons.injEq, Value.slice.injEq, and_true] at e
  obtain ⟨rfl, rfl, rfl⟩ := e
  refine ⟨A, c', by rw [List.length_take, Nat.min_eq_left hi], by rw [List.length_take]; omega, fun hn => ?_⟩
  obtain ⟨b, o, e1, e2, e3, e4⟩ := hx (by rintro rfl; simp at hn)
  refine ⟨b, o, e1, e2, e3, fun j x hj => ?_⟩
  rw [List.getElem?_take] at hj
  split at hj
  · exact e4 j x hj
  · cases hj
theorem VSlice.from_end {α : Type} {k : Nat} {R : View α} {w : World} {av : Nat → Prop} {A : Option Addr} {c n : Nat} {xs : List α} (h : VSlice k R w av [.slice A n c] xs) (i : Nat) (hi : i ≤ xs.length) (hc : c = i) : VSlice k R w av [.slice A (n - i) 0] (xs.drop i) := by
  obtain ⟨A', c', e, hl, hx⟩ := h
  simp only [List.cons.injEq, Value.slice.injEq, and_true] at e
  obtain ⟨rfl, rfl, rfl⟩ := e
  have : xs.drop i = [] := List.drop_eq_nil_of_le (by omega)
  rw [this]
  exact ⟨A, 0, by rw [List.length_nil, Nat.sub_eq_zero_of_le (by omega)], Nat.zero_le _, fun h => absurd rfl h⟩
theorem VSlice.from {α : Type} {k : Nat} {R : View α} {w : World} {av : Nat → Prop} {A : Option Addr} {c n : Nat} {xs : List α} (h : VSlice k R w av [.slice A n c] xs) (i : Nat) (hi : i ≤ xs.length) : VSlice k R w av [.slice (A.map fun x => x.add (i * k)) (n - i) (c - i)] (xs.drop i) := by
  have h0 := h
  obtain ⟨A', c', e, hl, hx⟩ := h
  simp only [List.cons.injEq, Value.slice.injEq, and_true] at e
  obtain ⟨rfl, rfl, rfl⟩ := e
  by_cases hn : xs.drop i = []
  · rw [hn]
    have : xs.length ≤ i := by
      have h2 := congrArg List.length hn
      rw [List.length_drop, List.length_nil] at h2
      omega
    exact ⟨_, c - i, by rw [List.length_nil, Nat.sub_eq_zero_of_le this], Nat.zero_le _, fun h => absurd rfl h⟩
  · obtain ⟨b, o, rfl, e2⟩ := hx (by rintro rfl; simp at hn)
    have := h0.drop i hi
    simpa [add_plain'] using this
/-! ### a list that is the function's own -/
/-- the row in a block from base on; what it holds, in other blocks, of av -/
def OwnV {α : Type} (e : TypeId) (k : Nat) (R : View α) (w : World) (base : Nat) (av : Nat → Prop) (v : Value) (xs : List α) : Prop :=
  ∃ vss : List (List Value), vss.length = xs.length ∧ w.ownsRow base e k v xs.length vss.flatten ∧ ∀ (j : Nat) (x : α) (vs : List Value), xs[j]? = some x → vss[j]? = some vs → R w (fun b => av b ∧ b < w.heap.size ∧ some b ≠ v.ownBlock) vs x
theorem OwnV.nil {α : Type} (e : TypeId) (k : Nat) (R : View α) (w : World) (base : Nat) (av : Nat → Prop) : OwnV e k R w base av (.slice none 0 0) [] := ⟨[], rfl, World.ownsRow_nil _ _ _ _, fun j x vs h => by simp at h⟩
theorem OwnV.mono {α : Type} {e : TypeId} {k : Nat} {R : View α} (hR : R.Ok k) {w : World} {base base' : Nat} {av av' : Nat → Prop} {v : Value} {xs : List α} (h : OwnV e k R w base av v xs) (hb : base' ≤ base) (hi : ∀ b, av b → av' b) : OwnV e k R w base' av' v xs := by
  obtain ⟨vss, h1, ⟨h2, h3⟩, h4⟩ := h
  refine ⟨vss, h1, ⟨h2, ?_⟩, fun j x vs hx hv => hR.mono (h4 j x vs hx hv) (fun b hb => ⟨hi b hb.1, hb.2⟩)⟩
  rcases h3 with h | ⟨g, cap, cur, e, hg, r⟩
  · exact .inl h
  · exact .inr ⟨g, cap, cur, e, Nat.le_trans hb hg, r⟩
theorem ownsRow_upd {w w' : World} {base : Nat} {e : TypeId} {size n : Nat} {v : Value} {xs : List Value} (h : w.ownsRow base e size v n xs) {S : Nat → Prop} (hu : Upd S w w') (hs : ∀ k, v.ownBlock = some k → ¬ S k) : w'.ownsRow base e size v n xs := by
  obtain ⟨h1, h2⟩ := h
  refine ⟨h1, ?_⟩
  rcases h2 with h2 | ⟨g, cap, cur, rfl, hg, hh, r⟩
  · exact .inl h2
  · exact .inr ⟨g, cap, cur, rfl, hg, hu.blk hh (hs g rfl), r⟩
theorem OwnV.upd {α : Type} {e : TypeId} {k : Nat} {R : View α} (hR : R.Ok k) {w w' : World} {base : Nat} {av : Nat → Prop} {v : Value} {xs : List α} (h : OwnV e k R w base av v xs) {S : Nat → Prop} (hu : Upd S w w') (hs : ∀ b, v.ownBlock = some b → ¬ S b) (ha : ∀ b, av b → b < w.heap.size → ¬ S b) :
    OwnV e k R w' base av v xs := by
  obtain ⟨vss, h1, h2, h4⟩ := h
  refine ⟨vss, h1, ownsRow_upd h2 hu hs, fun j x vs hx hv => hR.mono (hR.upd (h4 j x vs hx hv) hu (fun b hb => ha b hb.1 hb.2.1)) (fun b hb => ⟨hb.1, Nat.lt_of_lt_of_le hb.2.1 hu.size, hb.2.2⟩)⟩
theorem OwnV.below {α : Type} {e : TypeId} {k : Nat} {R : View α} (hR : R.Ok k) {w w' : World} {base : Nat} {av : Nat → Prop} {v : Value} {xs : List α} (h : OwnV e k R w base av v xs) (hb : Below w.heap.size w w') : OwnV e k R w' base av v xs :=
  h.upd hR (Upd.of_below (S := fun _ => False) hb) (fun _ _ h => h) (fun _ _ _ h => h)
theorem OwnV.lt {α : Type} {e : TypeId} {k : Nat} {R : View α} {w : World} {base : Nat} {av : Nat → Prop} {v : Value} {xs : List α} (h : OwnV e k R w base av v xs) : ∀ b, v.ownBlock = some b → base ≤ b ∧ b < w.heap.size := by
  obtain ⟨vss, h1, h2, h4⟩ := h
  exact h2.lt
theorem OwnV.shape {α : Type} {e : TypeId} {k : Nat} {R : View α} {w : World} {base : Nat} {av : Nat → Prop} {v : Value} {xs : List α} (h : OwnV e k R w base av v xs) : ∃ A c, v = .slice A xs.length c ∧ xs.length ≤ c ∧ (xs ≠ [] → ∃ g, A = some ⟨g, 0, none⟩) := by
  obtain ⟨vss, h1, h2, h4⟩ := h
  rcases h2.2 with ⟨rfl, h0⟩ | ⟨g, cap, cur, rfl, hb, hh, hnc, _⟩
  · rw [h0]; exact ⟨none, 0, rfl, Nat.le_refl _, fun h => absurd (List.eq_nil_of_length_eq_zero h0) h⟩
  · exact ⟨some ⟨g, 0, none⟩, cap, rfl, hnc, fun _ => ⟨g, rfl⟩⟩
theorem flatten_get {k : Nat} : ∀ (vss : List (List Value)) (h : ∀ l ∈ vss, l.length = k) (j i : Nat) (l : List Value) (u : Value), vss[j]? = some l → l[i]? = some u → vss.flatten[j * k + i]? = some u
  | [], _, j, i, l, u, hj, hi => by simp at hj
  | a :: t, h, 0, i, l, u, hj, hi => by
    simp at hj; subst hj
    rw [List.flatten_cons, Nat.zero_mul, Nat.zero_add, List.getElem?_append_left ((List.getElem?_eq_some_iff.1 hi).1)]; exact hi
  | a :: t, h, j + 1, i, l, u, hj, hi => by
    have ha := h a (by simp)
    rw [List.flatten_cons, show (j + 1) * k + i = a.length + (j * k + i) by rw [ha, Nat.add_mul]; omega, List.getElem?_append_right (by omega), Nat.add_sub_cancel_left]
    exact flatten_get t (fun l hl => h l (by simp [hl])) j i l u (by simpa using hj) hi
theorem OwnV.sizes {α : Type} {k : Nat} {R : View α} (hR : R.Ok k) {w : World} {av : Nat → Prop} {xs : List α} {vss : List (List Value)} (h1 : vss.length = xs.length) (h4 : ∀ (j : Nat) (x : α) (vs : List Value), xs[j]? = some x → vss[j]? = some vs → R w av vs x) : ∀ l ∈ vss, l.length = k := by
  intro l hl
  obtain ⟨j, hj, e⟩ := List.mem_iff_getElem.1 hl
  exact hR.size (h4 j (xs[j]'(by omega)) l (List.getElem?_eq_getElem (by omega)) (by rw [← e]; exact List.getElem?_eq_getElem hj))
/-- it reads as a slice -/
theorem OwnV.view {α : Type} {e : TypeId} {k : Nat} {R : View α} (hR : R.Ok k) {w : World} {base : Nat} {av : Nat → Prop} {v : Value} {xs : List α} (h : OwnV e k R w base av v xs) : VSlice k R w (fun b => (av b ∨ base ≤ b) ∧ b < w.heap.size) [v] xs := by
  obtain ⟨vss, h1, h2, h4⟩ := h
  have hs := OwnV.sizes hR h1 h4
  rcases h2.2 with ⟨rfl, h0⟩ | ⟨g, cap, cur, rfl, hb, hh, hnc, _⟩
  · obtain rfl : xs = [] := List.eq_nil_of_length_eq_zero h0
    exact VSlice.nil _ _ _ _
  · refine ⟨some ⟨g, 0, none⟩, cap, rfl, hnc, fun _ => ⟨g, 0, rfl, ⟨.inr hb, (Array.getElem?_eq_some_iff.1 hh).1⟩, (Array.getElem?_eq_some_iff.1 hh).1, fun j x hj => ?_⟩⟩
    have hjl : j < vss.length := by rw [h1]; exact (List.getElem?_eq_some_iff.1 hj).1
    exact ⟨vss[j], hR.mono (h4 j x _ hj (List.getElem?_eq_getElem hjl)) (fun b hb => ⟨.inl hb.1, hb.2.1⟩), fun i u hu => by rw [← add_plain']; exact h2.cells (g := g) rfl (j * k + i) u (flatten_get vss hs j i _ u (List.getElem?_eq_getElem hjl) hu)⟩
/-- t is a type of slices, of elements of k cells -/
def RowTy (P : Program) (t e : TypeId) (k : Nat) : Prop := P.underlying t = some (.slice e) ∧ ∃ i z, P.info? e = some i ∧ i.zero = some z ∧ i.size = k ∧ i.bytes ≤ 100000 ∧ z.cells.size = k ∧ 0 < k
theorem rowTy_of {P : Program} {t e : TypeId} {k : Nat} (ht : P.underlying t = some (.slice e)) (h : (P.info? e).map (fun i => (i.zero.map (fun z => z.cells.size), i.size, decide (i.bytes ≤ 100000))) = some (some k, k, true)) (hk : 0 < k) : RowTy P t e k := by
  obtain ⟨i0, hi, hz⟩ := Option.map_eq_some_iff.1 h
  simp only [Prod.mk.injEq, Option.map_eq_some_iff, decide_eq_true_eq] at hz
  obtain ⟨⟨z, h1, h2⟩, h3, h4⟩ := hz
  exact ⟨ht, i0, z, hi, h1, h3, h4, h2, hk⟩
theorem flatten_len {k : Nat} : ∀ (wss : List (List Value)) (hs : ∀ l ∈ wss, l.length = k), wss.flatten.length = wss.length * k
  | [], _ => by simp
  | a :: t, h => by
    rw [List.flatten_cons, List.length_append, flatten_len t (fun l hl => h l (by simp [hl])), h a (by simp), List.length_cons, Nat.add_mul]
    omega
theorem flatten_of_cells {k : Nat} (hk : 0 < k) {w : World} {ad : Addr} : ∀ (wss : List (List Value)) (hs : ∀ l ∈ wss, l.length = k) (hc : ∀ j l, wss[j]? = some l → ∀ i u, l[i]? = some u → w.cell? (ad.add (j * k + i)) = some u), ∀ j u, wss.flatten[j]? = some u → w.cell? (ad.add j) = some u := by
  intro wss hs hc j u hj
  have hlt := (List.getElem?_eq_some_iff.1 hj).1
  have hfl := flatten_len wss hs
  have hq : j / k < wss.length := by rw [Nat.div_lt_iff_lt_mul hk]; omega
  have hr : j % k < (wss[j / k]).length := by rw [hs _ (List.getElem_mem hq)]; exact Nat.mod_lt _ hk
  have h1 := flatten_get wss hs (j / k) (j % k) _ _ (List.getElem?_eq_getElem hq) (List.getElem?_eq_getElem hr)
  have hd : j / k * k + j % k = j := by rw [Nat.mul_comm]; exact Nat.div_add_mod j k
  rw [hd, hj] at h1
  have h2 := hc (j / k) _ (List.getElem?_eq_getElem hq) (j % k) _ (List.getElem?_eq_getElem hr)
  rw [hd] at h2
  rw [h2]; exact h1.symm
/-- some appended: where it lies then -/
theorem append_view {P : Program} {α : Type} {R : View α} {t e : TypeId} {k : Nat} (hR : R.Ok k) (hT : RowTy P t e k)
    {w : World} {base : Nat} {av avs : Nat → Prop} {v xv : Value} {xs ys : List α} (hown : OwnV e k R w base av v xs) (hsrc : VSlice k R w avs [xv] ys) (hav : ∀ b, avs b → b < w.heap.size → av b ∧ some b ≠ v.ownBlock) (hn : xs.length + ys.length ≤ 1000000000) (hb : base ≤ w.heap.size) (ty : TypeId) :
    ∃ v' w', (Builtin.append_ #[t, t] ty #[v, xv]).run P w = .ok v' w' ∧ OwnV e k R w' base av v' (xs ++ ys) ∧ w.grownBy w' v.ownBlock ∧ (v'.ownBlock = v.ownBlock ∨ v'.ownBlock = some w.heap.size) := by
  obtain ⟨ht, i0, z, hi, hz0, hz1, hz2, hz3, hk⟩ := hT
  obtain ⟨A, c, e1, hl, hx⟩ := hsrc
  simp only [List.cons.injEq, and_true] at e1
  subst e1
  by_cases hy : ys = []
  · subst hy
    obtain ⟨B, cap, rfl, hle, _⟩ := hown.shape
    refine ⟨_, w, run_append_nothing w t t ty e i0 ht hi B xs.length cap hle _ ?_, by rw [List.append_nil]; exact hown, grown_refl _ _, .inl rfl⟩
    cases A with
    | none => exact Src.ofNil w ht c
    | some ad => exact Src.ofSlice w ht ad 0 c [] (by simp) (fun j u hu => by simp at hu) (fun u hu => by cases hu)
  · obtain ⟨sb, so, rfl, hav1, hlt1, hel0⟩ := hx hy
    generalize had : (⟨sb, so, none⟩ : Addr) = ad
    have hel : ∀ j x, ys[j]? = some x → ∃ ws, R w avs ws x ∧ ∀ i u, ws[i]? = some u → w.cell? (ad.add (j * k + i)) = some u := fun j x hj => by
      obtain ⟨ws, h1, h2⟩ := hel0 j x hj
      exact ⟨ws, h1, fun i u hu => by rw [← had, add_plain']; exact h2 i u hu⟩
    have hws : ∃ wss : List (List Value), wss.length = ys.length ∧ ∀ (j : Nat) (y : α) (ws : List Value), ys[j]? = some y → wss[j]? = some ws → R w avs ws y ∧ ∀ i u, ws[i]? = some u → w.cell? (ad.add (j * k + i)) = some u := by
      have hch : ∀ j : Fin ys.length, ∃ ws, R w avs ws ys[j] ∧ ∀ i u, ws[i]? = some u → w.cell? (ad.add (j * k + i)) = some u := fun j => hel j ys[j] (List.getElem?_eq_getElem j.2)
      refine ⟨List.ofFn fun j => (hch j).choose, by simp, fun j y ws hy hw => ?_⟩
      obtain ⟨hj, rfl⟩ := List.getElem?_eq_some_iff.1 hy
      rw [List.getElem?_ofFn, dif_pos hj] at hw
      cases hw
      exact (hch ⟨j, hj⟩).choose_spec
    obtain ⟨wss, hwl, hwe⟩ := hws
    have hsz : ∀ l ∈ wss, l.length = k := OwnV.sizes hR hwl (fun j x vs h1 h2 => (hwe j x vs h1 h2).1)
    have hat : ∀ j (h : j < wss.length), R w avs wss[j] (ys[j]'(by omega)) ∧ ∀ i u, wss[j][i]? = some u → w.cell? (ad.add (j * k + i)) = some u := fun j h => hwe j _ _ (List.getElem?_eq_getElem _) (List.getElem?_eq_getElem h)
    have hfl : wss.flatten.length = ys.length * k := by rw [flatten_len wss hsz, hwl]
    obtain ⟨vss, h1, h2, h4⟩ := hown
    obtain ⟨v', w', hr, g2, g3, _, g5⟩ := run_append_own_at (P := P) w base t ty e i0 z k i0.bytes ht hi hz0 hz1 rfl hz3 hk v xs.length vss.flatten h2 ad ys.length c wss.flatten hfl
      (flatten_of_cells hk wss hsz (fun j l hj => by obtain ⟨hj', rfl⟩ := List.getElem?_eq_some_iff.1 hj; exact (hat j hj').2))
      (fun u hu => by
        obtain ⟨l, hl, hu⟩ := List.mem_flatten.1 hu
        obtain ⟨j, hj, rfl⟩ := List.mem_iff_getElem.1 hl
        exact hR.one (hat j hj).1 u hu)
      (by unfold maxLen; omega) (by have := Nat.mul_le_mul hn hz2; omega) hb
    have hu : Upd (fun b => some b = v.ownBlock) w w' := ⟨g3.os, g3.tape, g3.output, g3.size, fun i hi hn => g3.block i hi hn⟩
    refine ⟨v', w', hr, ⟨vss ++ wss, by simp [h1, hwl], by rw [List.flatten_append, List.length_append]; exact g2, fun j x vs hx hv => ?_⟩, g3, g5⟩
    have key : R w (fun b => av b ∧ b < w.heap.size ∧ some b ≠ v.ownBlock) vs x := by
      by_cases hj : j < xs.length
      · rw [List.getElem?_append_left hj] at hx
        rw [List.getElem?_append_left (by omega)] at hv
        exact h4 j x vs hx hv
      · rw [List.getElem?_append_right (by omega)] at hx
        rw [List.getElem?_append_right (by omega), h1] at hv
        exact hR.mono (hR.bound (hwe _ x vs hx hv).1) (fun b hb => by have := hav b hb.1 hb.2; exact ⟨this.1, hb.2, this.2⟩)
    refine hR.mono (hR.upd key hu (fun b hb => hb.2.2)) (fun b hb => ⟨hb.1, Nat.lt_of_lt_of_le hb.2.1 g3.size, ?_⟩)
    rcases g5 with g | g
    · rw [g]; exact hb.2.2
    · rw [g]; intro e; have := Option.some.inj e; omega
theorem wpList_append_view {P : Program} {α : Type} {R : View α} {t e : TypeId} {k : Nat} (hR : R.Ok k) (hT : RowTy P t e k) {w : World} {ops : Array Oper} {rest : List Oper} {o : Oper} {a : Act} {Q : Exit → Act → World → Prop} (hgd : o.guard = none) (s x : Operand)
    (ho : o.op = .call { callee := .builtin .append, args := #[s, x], argTypes := #[t, t] })
    {base : Nat} {av avs : Nat → Prop} {v xv : Value} {xs ys : List α} (hs : a.eval s = v) (hown : OwnV e k R w base av v xs) (hx : a.eval x = xv) (hsrc : VSlice k R w avs [xv] ys) (hav : ∀ b, avs b → b < w.heap.size → av b ∧ some b ≠ v.ownBlock) (hn : xs.length + ys.length ≤ 1000000000) (hb : base ≤ w.heap.size)
    (h : ∀ v' w', OwnV e k R w' base av v' (xs ++ ys) → w.grownBy w' v.ownBlock → (v'.ownBlock = v.ownBlock ∨ v'.ownBlock = some w.heap.size) → wpList P ops Q rest (a.put o.dst v') w') : wpList P ops Q (o :: rest) a w := by
  refine wpList_plain hgd fun K hK => ?_
  obtain ⟨v', w', hrun, h1, h2, h3⟩ := append_view hR hT hown hsrc hav hn hb o.type
  unfold Oper.wp
  simp [execOp, ho, resolve, invoke, builtin, hs, hx, hrun, Result.andThen]
  exact hK _ _ (h v' w' h1 h2 h3)
theorem wpListIn_append_view {F : Fence} {nF : Nat} {P : Program} {α : Type} {R : View α} {t e : TypeId} {k : Nat} (hR : R.Ok k) (hT : RowTy P t e k) {w : World} {ops : Array Oper} {rest : List Oper} {o : Oper} {a : Act} {Q : Exit → Act → World → Prop} (hgd : o.guard = none) (s x : Operand)
    (ho : o.op = .call { callee := .builtin .append, args := #[s, x], argTypes := #[t, t] })
    {base : Nat} {av avs : Nat → Prop} {v xv : Value} {xs ys : List α} (hs : a.eval s = v) (hown : OwnV e k R w base av v xs) (hx : a.eval x = xv) (hsrc : VSlice k R w avs [xv] ys) (hav : ∀ b, avs b → b < w.heap.size → av b ∧ some b ≠ v.ownBlock) (hn : xs.length + ys.length ≤ 1000000000) (hb : base ≤ w.heap.size)
    (h : ∀ v' w', OwnV e k R w' base av v' (xs ++ ys) → w.grownBy w' v.ownBlock → (v'.ownBlock = v.ownBlock ∨ v'.ownBlock = some w.heap.size) → wpListIn F nF P ops Q rest (a.put o.dst v') w') : wpListIn F nF P ops Q (o :: rest) a w := by
  refine wpListIn_plain hgd fun K hK => ?_
  obtain ⟨v', w', hrun, h1, h2, h3⟩ := append_view hR hT hown hsrc hav hn hb o.type
  unfold Oper.wpIn
  refine ⟨by simp [Oper.about, ho, resolve, Target.leads, Sem.run_pure], ?_⟩
  rw [Oper.semAt_plain F _ _ (by rw [ho]; intro c hc'; cases hc')]
  simp [execOp, ho, resolve, invoke, builtin, hs, hx, hrun, Result.andThen]
  exact hK _ _ (h v' w' h1 h2 h3)
theorem step_append_view {P : Program} {α : Type} {R : View α} {t e : TypeId} {k : Nat} (hR : R.Ok k) (hT : RowTy P t e k) {w : World} {ops : Array Oper} {o : Oper} {a : Act} {K : Act → World → Prop} {Q : Exit → Act → World → Prop} {E : Prop} (hgd : o.guard = none) (s x : Operand)
    (ho : o.op = .call { callee := .builtin .append, args := #[s, x], argTypes := #[t, t] })
    {base : Nat} {av avs : Nat → Prop} {v xv : Value} {xs ys : List α} (hs : a.eval s = v) (hown : OwnV e k R w base av v xs) (hx : a.eval x = xv) (hsrc : VSlice k R w avs [xv] ys) (hav : ∀ b, avs b → b < w.heap.size → av b ∧ some b ≠ v.ownBlock) (hn : xs.length + ys.length ≤ 1000000000) (hb : base ≤ w.heap.size)
    (h : ∀ v' w', OwnV e k R w' base av v' (xs ++ ys) → w.grownBy w' v.ownBlock → (v'.ownBlock = v.ownBlock ∨ v'.ownBlock = some w.heap.size) → K (a.put o.dst v') w') : if Region.wanted o (yielded ops a.tmps) = true then Oper.wp P o a w K Q else E := by
  have hw : Region.wanted o (yielded ops a.tmps) = true := by simp [Region.wanted, hgd]
  rw [if_pos hw]
  obtain ⟨v', w', hrun, h1, h2, h3⟩ := append_view hR hT hown hsrc hav hn hb o.type
  unfold Oper.wp
  simp [execOp, ho, resolve, invoke, builtin, hs, hx, hrun, Result.andThen]
  exact h v' w' h1 h2 h3
theorem flat_one {α β : Type} (f : α → β) : ∀ zs : List α, zs.map f = (zs.map fun z => [f z]).flatten
  | [] => rfl
  | z :: t => by rw [List.map_cons, List.map_cons, List.flatten_cons, ← flat_one f t]; rfl
/-- a literal's row: some cells in a new block -/
theorem VSlice.lit {α : Type} {k : Nat} {R : View α} {w : World} {av : Nat → Prop} {cs : List Value} {e : TypeId} {wss : List (List Value)} {xs : List α} (hR : R.Ok k) (hl : wss.length = xs.length) (hc : cs = wss.flatten) (hel : ∀ (j : Nat) (x : α) (ws : List Value), xs[j]? = some x → wss[j]? = some ws → R w av ws x) (hav : av w.heap.size) (n c : Nat) (hn : n = xs.length) (hnc : xs.length ≤ c) :
    VSlice k R (w.alloc (.cells cs.toArray e)) av [.slice (some ⟨w.heap.size, 0, none⟩) n c] xs := by
  subst hn hc
  refine ⟨_, c, rfl, hnc, fun _ => ⟨_, _, rfl, hav, by simp, fun j x hj => ?_⟩⟩
  have hj2 : j < wss.length := by rw [hl]; exact (List.getElem?_eq_some_iff.1 hj).1
  refine ⟨wss[j], hR.below (hel j x _ hj (List.getElem?_eq_getElem hj2)) (below_new _ _), fun i u hu => ?_⟩
  rw [Nat.zero_add]
  refine cell_new _ _ _ _ _ ?_
  rw [List.getElem?_toArray]
  exact flatten_get wss (OwnV.sizes hR hl hel) j i _ u (List.getElem?_eq_getElem hj2) hu
/-- two lists, one by one -/
def eqL {α : Type} (eq : α → α → Bool) : List α → List α → Bool
  | [], [] => true
  | x :: xs, y :: ys => eq x y && eqL eq xs ys
  | _, _ => false
theorem eqL_len {α : Type} (eq : α → α → Bool) : ∀ xs ys : List α, xs.length = ys.length → True := fun _ _ _ => trivial
theorem eqL_ne {α : Type} (eq : α → α → Bool) : ∀ xs ys : List α, xs.length ≠ ys.length → eqL eq xs ys = false
  | [], [], h => absurd rfl h
  | x :: xs, y :: ys, h => by rw [eqL, eqL_ne eq xs ys (by simpa using h), Bool.and_false]
  | [], _ :: _, _ => rfl
  | _ :: _, [], _ => rfl
theorem eqL_iff {α : Type} {eq : α → α → Bool} : ∀ (xs ys : List α), (∀ x ∈ xs, ∀ y, eq x y = true ↔ x = y) → (eqL eq xs ys = true ↔ xs = ys)
  | [], [], _ => by simp [eqL]
  | x :: xs, y :: ys, h => by
    rw [eqL, Bool.and_eq_true, h x (by simp) y, eqL_iff xs ys (fun z hz => h z (by simp [hz])), List.cons.injEq]
  | [], _ :: _, _ => by simp [eqL]
  | _ :: _, [], _ => by simp [eqL]
/-- new blocks, and a row of one's own -/
theorem below_of_own {w a b c : World} {v : Value} (h : Below w.heap.size w a) (hb : Below a.heap.size a b) (hg : b.grownBy c v.ownBlock) (hv : ∀ k, v.ownBlock = some k → w.heap.size ≤ k) : Below w.heap.size w c := by
  have h1 := below_then h hb
  exact ⟨hg.os.trans h1.os, hg.tape.trans h1.tape, hg.output.trans h1.output, Nat.le_trans h1.size hg.size, fun i hi => (hg.block i (Nat.lt_of_lt_of_le hi h1.size) (fun e => by have := hv i e.symm; omega)).trans (h1.block i hi)⟩
/-! ### what came in -/
theorem cells_get {w : World} {base : Nat} {a : Addr} {n : Nat} {cs : List Value} (h : w.cells? base a n = some cs) : base ≤ a.block ∧ cs.length = n ∧ ∀ i u, cs[i]? = some u → w.cell? (a.add i) = some u := by
  unfold World.cells? at h
  split at h
  · rename_i hb
    refine ⟨hb, by simpa using mapM_some_length h, fun i u hu => ?_⟩
    have hi : i < n := by have := (List.getElem?_eq_some_iff.1 hu).1; rw [show cs.length = n by simpa using mapM_some_length h] at this; exact this
    have := mapM_some_get h i i (by simp [hi])
    rw [this, hu]
  · cases h
/-- what reads of a type is such a thing, of which G holds -/
def Opens (P : Program) {α : Type} (w : World) (R : View α) (G : α → Prop) (t : TypeId) : Prop := ∀ (H : Type) (enc : TypeId × Value → H) fuel cs y, DataW.trod enc P w 0 (fun _ => true) true fuel t cs = some y → ∃ x, R w (fun _ => True) cs x ∧ G x
theorem opens_str {P : Program} {w : World} {t : TypeId} (ht : P.underlying t = some .string) : Opens P w VStr (fun x => x.size ≤ maxLen) t := by
  intro H enc fuel cs y h
  cases fuel with
  | zero => simp [DataW.trod] at h
  | succ n =>
    unfold DataW.trod at h
    rw [ht] at h
    split at h <;> simp_all
    exact ⟨_, rfl, h.1⟩
theorem opens_int {P : Program} {w : World} {t : TypeId} (ht : P.underlying t = some (.int .i64)) : Opens P w VInt (fun x => (Lit.int .i64 x).wf = true) t := by
  intro H enc fuel cs y h
  cases fuel with
  | zero => simp [DataW.trod] at h
  | succ n =>
    unfold DataW.trod at h
    rw [ht] at h
    split at h <;> simp_all
    rename_i k k' n heq
    obtain ⟨⟨_, h1⟩, _⟩ := h
    refine ⟨n, ?_, h1⟩
    show [Value.int k n] = [Value.int .i64 n]
    rw [← heq]
theorem opens_bool {P : Program} {w : World} {t : TypeId} (ht : P.underlying t = some .bool) : Opens P w VBool (fun _ => True) t := by
  intro H enc fuel cs y h
  cases fuel with
  | zero => simp [DataW.trod] at h
  | succ n =>
    unfold DataW.trod at h
    rw [ht] at h
    split at h <;> simp_all
    rename_i b
    cases b
    · exact .inl (show [Value.bool false] = [Value.bool false] from rfl)
    · exact .inr (show [Value.bool true] = [Value.bool true] from rfl)
theorem opens_slice {P : Program} {α : Type} {w : World} {R : View α} {G : α → Prop} {t e : TypeId} {k : Nat} (hR : R.Ok k) (hk : P.cellsOf e = k) (hk0 : 0 < k) (ht : P.underlying t = some (.slice e)) (he : Opens P w R G e) : Opens P w (VSlice k R) (fun xs => (∀ x ∈ xs, G x) ∧ xs.length ≤ maxLen) t := by
  intro H enc fuel cs y h
  rcases DataW.trod_slice ht h with ⟨h0, _⟩ | ⟨a, len, cap, elems, rest, n, _, rfl, rfl, hb, hl, hm, hlen, hel, hsp, hns⟩
  · subst h0
    exact ⟨[], VSlice.nil _ _ _ _, fun x hx => (by cases hx), Nat.zero_le _⟩
  · subst hk
    have each : ∀ j : Fin len, ∃ x ws, R w (fun _ => True) ws x ∧ G x ∧ ∀ i u, ws[i]? = some u → w.cell? (a.add (j * P.cellsOf e + i)) = some u := fun j => by
      have h1 := hel j j.2
      rw [List.getElem?_eq_getElem (by omega), Option.bind_eq_some_iff] at h1
      obtain ⟨cs, hc, hd⟩ := h1
      obtain ⟨x, hx, hg⟩ := he H enc n cs _ hd
      obtain ⟨_, _, hcell⟩ := cells_get hc
      exact ⟨x, cs, hx, hg, fun i u hu => by rw [← add_add]; exact hcell i u hu⟩
    have hw1 : ∀ (h : 0 < len), ∃ u, w.cell? a = some u := fun h => by
      obtain ⟨ws, h1, h2, h3⟩ := (each ⟨0, h⟩).choose_spec
      have hwl := hR.size h1
      exact ⟨_, by simpa [Addr.add] using h3 0 (ws[0]'(by omega)) (List.getElem?_eq_getElem _)⟩
    have hsp : ∀ (h : 0 < len), a = ⟨a.block, a.off, none⟩ := fun h => by
      obtain ⟨u, hu⟩ := hw1 h
      obtain ⟨b, o, sp⟩ := a
      cases sp with
      | none => rfl
      | some s =>
        unfold World.cell? at hu
        split at hu <;> simp at hu
    refine ⟨List.ofFn fun j => (each j).choose, ⟨some a, cap, by rw [List.length_ofFn], by rw [List.length_ofFn]; exact hl, fun hne => ?_⟩, fun x hx => ?_, by rw [List.length_ofFn]; omega⟩
    · have hpos : 0 < len := by
        rcases Nat.eq_zero_or_pos len with h | h
        · subst h; simp at hne
        · exact h
      refine ⟨a.block, a.off, congrArg some (hsp hpos), trivial, ?_, fun j x hj => ?_⟩
      · obtain ⟨u, hu⟩ := hw1 hpos
        exact World.block_lt_of_cell? w _ hu
      rw [List.getElem?_ofFn] at hj
      split at hj
      · cases hj
        rename_i hjl
        obtain ⟨ws, h1, h2, h3⟩ := (each ⟨j, hjl⟩).choose_spec
        exact ⟨ws, h1, fun i u hu => by rw [← add_plain', ← hsp hpos]; exact h3 i u hu⟩
      · cases hj
    · obtain ⟨j, rfl⟩ := List.mem_ofFn.1 hx
      obtain ⟨ws, h1, h2, h3⟩ := (each j).choose_spec
      exact h2
end Go.Proofs.YtiafggoaedifdaaGreatDoor
/- Plain laws on texts, their runes and bytes. No program. -/
namespace Go.Proofs.YtiafggoaedifdaaGreatDoor.Txt
open Go
set_option linter.unusedVariables false
theorem bl (s : ByteArray) : s.toList = s.data.toList := ByteArray.toList_eq s
theorem size_list (s : ByteArray) : s.data.toList.length = s.size := by rw [Array.length_toList]; rfl
theorem mk_list (s : ByteArray) : (⟨s.data.toList.toArray⟩ : ByteArray) = s := by simp
theorem size_mk (l : List UInt8) : (⟨l.toArray⟩ : ByteArray).size = l.length := by show l.toArray.size = _; simp
theorem list_mk (l : List UInt8) : (⟨l.toArray⟩ : ByteArray).data.toList = l := rfl
theorem drop_cons (s : ByteArray) (pos : Nat) (h : pos < s.size) : s.data.toList.drop pos = s[pos] :: s.data.toList.drop (pos + 1) := by
  rw [List.drop_eq_getElem_cons (by rw [size_list]; exact h)]; rfl
theorem take_snoc (s : ByteArray) (pos : Nat) (h : pos < s.size) : s.data.toList.take (pos + 1) = s.data.toList.take pos ++ [s[pos]] := by
  rw [List.take_succ_eq_append_getElem (by rw [size_list]; exact h)]; rfl
theorem idx_from (p : Nat → Bool) (hp : ∀ r, 128 ≤ r → p r = true) (s : ByteArray) : ∀ f pos, s.size ≤ pos + f → decide (0 ≤ Lib.idxFuncFrom p true s f pos) = (s.data.toList.drop pos).any (fun c => p c.toNat)
  | 0, pos, h => by
    rw [Lib.idxFuncFrom_end p true s 0 pos (by omega), List.drop_eq_nil_of_le (by rw [size_list]; omega)]; rfl
  | f + 1, pos, h => by
    by_cases hlt : pos < s.size
    · rw [drop_cons s pos hlt, List.any_cons]
      unfold Lib.idxFuncFrom
      rw [if_pos hlt]
      by_cases ha : (s[pos]).toNat < 128
      · rw [decode_ascii s pos hlt ha]
        dsimp only
        by_cases hq : p (s[pos]).toNat = true
        · rw [if_pos hq, hq]; simp
        · rw [if_neg hq, idx_from p hp s f (pos + 1) (by omega)]
          simp [hq]
      · have hh := decode_high s pos hlt (by omega)
        rw [if_pos (hp _ hh.1), hp _ (by omega)]
        simp
    · rw [Lib.idxFuncFrom_end p true s _ pos hlt, List.drop_eq_nil_of_le (by rw [size_list]; omega)]; rfl
theorem idx_any (p : Nat → Bool) (hp : ∀ r, 128 ≤ r → p r = true) (s : ByteArray) : decide (0 ≤ Lib.idxFunc p true s) = s.data.toList.any (fun c => p c.toNat) := by
  unfold Lib.idxFunc
  rw [idx_from p hp s s.size 0 (by omega), List.drop_zero]
end Go.Proofs.YtiafggoaedifdaaGreatDoor.Txt
/- Slices of bytes: that they read as lists; texts made of them, and they of texts. Conditions: the shape of memory that each theorem names. -/
namespace Go.Proofs.YtiafggoaedifdaaGreatDoor
open Go.RowKit
set_option linter.unusedVariables false
def VByte : View UInt8 := fun _ _ vs x => vs = [.int .u8 x.toNat]
theorem VByte.ok : View.Ok 1 VByte := ⟨fun h _ => h, fun h _ _ => h, fun h => h, fun h => by rw [h]; rfl, fun h u hu => by rw [h] at hu; obtain rfl := List.mem_singleton.1 hu; rfl⟩
theorem bytesTy : RowTy Tryz.prog 73 5 1 := rowTy_of Tryz.underlying73 (by kernel_rfl) (by decide)
theorem strOf' (l : List UInt8) : strOfNums (l.map fun x => (x.toNat : Int)) = ⟨l.toArray⟩ := by
  unfold strOfNums
  congr 1
  rw [List.map_map]
  congr 1
  refine (List.map_congr_left (g := id) fun x _ => ?_).trans (List.map_id l)
  show UInt8.ofNat ((x.toNat : Int).toNat) = x
  rw [Int.toNat_natCast]; exact UInt8.ofNat_toNat
/-- a text of bytes -/
theorem bytes_text {w : World} {av : Nat → Prop} {v : Value} {l : List UInt8} (h : VSlice 1 VByte w av [v] l) : (convert 73 9 v).run Tryz.prog w = .ok (.string ⟨l.toArray⟩) w := by
  obtain ⟨A, c, rfl, _, hx⟩ := h.open
  by_cases hl : l = []
  · subst hl
    cases A with
    | none => exact run_convert_bytes_nil w 73 5 Tryz.underlying73 Tryz.underlying5 0 c 9 Tryz.underlying9
    | some ad =>
      obtain ⟨b, o, s⟩ := ad
      rw [run_convert_bytes_string w 73 9 5 _ _ _ Tryz.underlying73 Tryz.underlying5 Tryz.underlying9]
      rfl
  · obtain ⟨b, o, rfl, _, _, hc⟩ := hx hl
    rw [← strOf']
    refine run_convert_bytes_arg w 73 5 Tryz.underlying73 Tryz.underlying5 b o l.length c _ (by simp) (fun i hi => ?_) 9 Tryz.underlying9
    obtain ⟨ws, h1, h2⟩ := hc i l[i] (List.getElem?_eq_getElem hi)
    have e1 : ws = [.int .u8 l[i].toNat] := h1
    subst e1
    have h3 := h2 0 _ rfl
    simp only [Nat.mul_one, Nat.add_zero] at h3
    rw [h3]
    simp [List.getD_eq_getElem?_getD, List.getElem?_eq_getElem hi]
/-- bytes of a text, in a new row -/
theorem text_bytes (W : World) (av : Nat → Prop) (s : ByteArray) (hav : av W.heap.size) : VSlice 1 VByte (Lib.bytesWorld W 5 s) av [.slice (some ⟨W.heap.size, 0, none⟩) s.size (grownCap W s.size 0 5)] s.data.toList := by
  have hl := Txt.size_list s
  refine ⟨some ⟨W.heap.size, 0, none⟩, grownCap W s.size 0 5, by rw [hl], by rw [hl]; exact grownCap_ge _ _ _ _, fun _ => ⟨W.heap.size, 0, rfl, hav, by rw [Lib.bytesWorld_size]; omega, fun j u hu => ⟨_, rfl, fun i x hx => ?_⟩⟩⟩
  have hj : j < s.size := by rw [← hl]; exact (List.getElem?_eq_some_iff.1 hu).1
  have hi : i = 0 := by
    have := (List.getElem?_eq_some_iff.1 hx).1
    simpa using this
  subst hi
  cases hx
  rw [Nat.zero_add, Nat.mul_one, Nat.add_zero, Lib.bytesWorld_cell W 5 s j hj, List.getD_eq_getElem?_getD, hu]
  rfl
theorem text_below (W : World) (s : ByteArray) : Below W.heap.size W (Lib.bytesWorld W 5 s) :=
  ⟨rfl, rfl, rfl, by rw [Lib.bytesWorld_size]; omega, fun i hi => Lib.bytesWorld_at_old W 5 s i hi⟩
/-- a literal's bytes, in a new row -/
theorem lit_bytes (W : World) (av : Nat → Prop) (l : List UInt8) (hav : av W.heap.size) (n c : Nat) (hn : n = l.length) (hc : l.length ≤ c) : VSlice 1 VByte (W.alloc (.cells (l.map fun x => Value.int .u8 x.toNat).toArray 5)) av [.slice (some ⟨W.heap.size, 0, none⟩) n c] l :=
  VSlice.lit (wss := l.map fun x => [.int .u8 x.toNat]) VByte.ok (by simp) (flat_one _ l) (fun j x ws hx hw => by rw [List.getElem?_map, hx] at hw; cases hw; rfl) hav n c hn hc
end Go.Proofs.YtiafggoaedifdaaGreatDoor
