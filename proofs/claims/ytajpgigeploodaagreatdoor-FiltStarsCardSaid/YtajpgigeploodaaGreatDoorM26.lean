/- Several texts, one behind the other. filt.told: the number of an error of the package filt. Conditions: the package's variable holds its sentinel. filt, walked: values, errors told. Conditions: texts of at most 10^6 bytes. The walk without memory: functions that leave a closure behind, which is run at their end. Whatever program. filt, walked: sets of filters, read: the closure at the end. Conditions: texts of at most 10^6 bytes. filt, plain: sets read as a loop; what is read is the beginning of a text. No program. -/
import Derived.Test.YtajpgigeploodaaGreatDoorM25
import Derived.Test.YtajpgigeploodaaGreatDoorM01
import Derived.Test.YtajpgigeploodaaGreatDoorM11
import Derived.Test.YtajpgigeploodaaGreatDoorM23
/- filt.told: the number of an error of the package filt. Conditions: the package's variable holds its sentinel. -/
namespace Go.Proofs.YtajpgigeploodaaGreatDoor.ToldFilt
open Go.RowKit
theorem told_nil (w : World) (p : Nat → Addr) (h : Globs w p) : Calls Tryz.prog 30 #[.nilIface] w fun e w' => e = .returned (.int .i64 0) ∧ Below w.heap.size w w' := by
  have k0 := h.cell 0 (by decide)
  have hlt := World.block_lt_of_cell? w _ k0
  clear h
  go_enter Tryz.func30, Tryz.ntmps30
  go_wp2_with fail
  have h1 := Aside.mk (below_new w (.cells #[.int .i64 0] 48))
  refine (IsFilt.is_nil _ _).mono ?_
  rintro e w0 ⟨rfl, rfl⟩
  go_wp2
  go_ret
  exact ⟨rfl, h1.out⟩
set_option maxHeartbeats 1000000 in
theorem told_wrong (x : Value) (hx : x.oneCell' = true) (w : World) (p : Nat → Addr) (h : Globs w p) :
    Calls Tryz.prog 30 #[.iface 48 (.agg #[x])] w fun e w' => e = .returned (.int .i64 80) ∧ Below w.heap.size w w' := by
  have k0 := h.cell 0 (by decide)
  have hlt := World.block_lt_of_cell? w _ k0
  go_enter Tryz.func30, Tryz.ntmps30
  go_wp2_with fail
  have h1 : Below w.heap.size w (w.alloc (.cells #[.int .i64 0] 48)) := below_new _ _
  have k1 := cell_below k0 h1
  refine (IsFilt.is_same x _ _ k1).mono ?_
  rintro e w1 ⟨rfl, hb⟩
  have h2 : Below w.heap.size w w1 := below_then h1 (by rw [← hb]; exact below_new _ _)
  have hc : w1.heap[w.heap.size]? = some (.cells #[.int .i64 0] 48 (0, 0)) := by rw [← hb]; exact blk_below (World.alloc_heap_new w _) (below_new _ _)
  have HC := Aside.mk hc
  have H2 := Aside.mk h2
  have H3 := Aside.mk (h.below h2).et
  have hlt1 : w.heap.size < w1.heap.size := (Array.getElem?_eq_some_iff.1 hc).1
  clear k0 k1 hb hlt h h1 h2 hc
  go_wp2_with fail
  refine (AsFilt.as_hit w.heap.size (.int .i64 0) x _ hx H3.out HC.out).mono ?_
  rintro e w0 ⟨rfl, hb, hc⟩
  have H0 := Aside.mk (H2.out.trans hb)
  clear hb hc
  go_wp2
  go_ret
  exact ⟨rfl, H0.out⟩
end Go.Proofs.YtajpgigeploodaaGreatDoor.ToldFilt
/- filt, walked: values, errors told. Conditions: texts of at most 10^6 bytes. -/
namespace Go.Proofs.YtajpgigeploodaaGreatDoor.Fi
open Go.RowKit Go.Shelf Go.Lib Fl
set_option linter.unusedVariables false
variable (p : Nat → Addr)
/-- an error -/
def fErr (i : Int) : V := .ifc 48 (.agg [.int .i64 i])
theorem told_nil_fn : Fn Tryz.prog (envX p) 30 [.v .nili] (.v (.int .i64 0)) :=
  Fn.of_plain (enter_of (by kernel_rfl)) rfl fun w L vs hE ha => by
    obtain ⟨v, rfl, h⟩ := one_arg ha
    rw [show v = .nilIface from h]
    exact ToldFilt.told_nil w p hE.gl
theorem told_wrong_fn (i : Int) : Fn Tryz.prog (envX p) 30 [.v (fErr i)] (.v (.int .i64 80)) :=
  Fn.of_plain (enter_of (by kernel_rfl)) rfl fun w L vs hE ha => by
    obtain ⟨v, rfl, h⟩ := one_arg ha
    obtain ⟨u, rfl, cs, rfl, h1⟩ := h
    obtain ⟨u, us, h2, _, h3, h4⟩ := h1
    have : cs = #[.int .i64 i] := by
      rw [show us = [] from h4, show u = _ from h3] at h2
      exact Array.toList_inj.1 h2
    rw [this]
    exact ToldFilt.told_wrong (.int .i64 i) rfl w p hE.gl
/-! ### values -/
def badAt : List ByteArray → Nat
  | [] => 0
  | s :: r => match readV (bl s) with
    | some _ => badAt r + 1
    | none => 0
def valuesT (l : List ByteArray) : T := match Dn.allM (fun s => readV (bl s)) l with
  | some vs => .tup [.v (.sl (vs.map encS)), .v .nili]
  | none => .tup [.v .nils, .v (fErr (badAt l))]
theorem allM_take : ∀ (l : List ByteArray) (i : Nat) (vs : List ByteArray), Dn.allM (fun s => readV (bl s)) (l.take i) = some vs → i ≤ l.length → vs.length = i ∧ (∀ h : i < l.length, ∀ v, readV (bl l[i]) = some v → Dn.allM (fun s => readV (bl s)) (l.take (i + 1)) = some (vs ++ [v])) ∧ (∀ h : i < l.length, readV (bl l[i]) = none → Dn.allM (fun s => readV (bl s)) l = none ∧ badAt l = i)
  | l, 0, vs, h, _ => by
    rw [List.take_zero] at h
    cases h
    refine ⟨rfl, fun h v hv => ?_, fun h hv => ?_⟩
    · cases l with
      | nil => simp at h
      | cons s r => simp at hv; simp [Dn.allM, hv]
    · cases l with
      | nil => simp at h
      | cons s r => simp at hv; simp [Dn.allM, badAt, hv]
  | [], i + 1, vs, h, hi => by simp at hi
  | s :: r, i + 1, vs, h, hi => by
    rw [List.take_succ_cons, Dn.allM] at h
    cases hs : readV (bl s) with
    | none => rw [hs] at h; cases h
    | some v =>
      rw [hs] at h
      dsimp only at h
      obtain ⟨ws, hw, rfl⟩ := Option.map_eq_some_iff.1 h
      obtain ⟨h1, h2, h3⟩ := allM_take r i ws hw (by simpa using hi)
      refine ⟨by simp [h1], fun hl u hu => ?_, fun hl hu => ?_⟩
      · have := h2 (by simpa using hl) u (by simpa using hu)
        rw [List.take_succ_cons, Dn.allM, hs]
        simp [this]
      · obtain ⟨h4, h5⟩ := h3 (by simpa using hl) (by simpa using hu)
        rw [Dn.allM, hs, badAt, hs]
        simp [h4, h5]
theorem values_fn (l : List ByteArray) (hl : l.length ≤ 1000000000) (hs : ∀ s ∈ l, s.size ≤ 100000000) : Fn Tryz.prog (envX p) 106 [.v (.sl (l.map encS))] (valuesT l) := by
  refine fn_prog tabOk mixed Tryz.f106 Tryz.func106 (by kernel_rfl) (by kernel_rfl) ?_
  conv => whnf
  refine ⟨Nat × List ByteArray, fun x => ⟨32, [(4, .own 4 9 (x.2.map encS)), (9, .v (.sl (l.map encS))), (10, .v (.int .i64 ((l.map encS).length : Nat))), (11, .v (.int .i64 (x.1 : Nat)))], [], [(4, some 9)]⟩, fun x => x.1 ≤ l.length ∧ Dn.allM (fun s => readV (bl s)) (l.take x.1) = some x.2, fun x => l.length - x.1, ⟨(0, []), [(4, none)], ⟨by dsimp only; omega, rfl⟩, ?_⟩, fun x ⟨hi, ha⟩ => ?_⟩
  · exact ⟨rfl, rfl, ⟨⟨rfl, rfl, rfl⟩, .inl rfl, .inl rfl, .inl rfl, trivial⟩, trivial, ⟨trivial, trivial⟩⟩
  obtain ⟨i, vs⟩ := x
  dsimp only at hi ha
  obtain ⟨hv, hok, hbad⟩ := allM_take l i vs ha hi
  conv => whnf
  refine ⟨rfl, cmp_split (fun h => ?_) (fun h => ?_)⟩
  · rw [List.length_map] at h
    have hil : i < l.length := by omega
    conv => whnf
    refine st_idx hil rfl ?_
    conv => whnf
    have hrf := readFilter_fn p l[i] (hs _ (List.getElem_mem hil))
    unfold Esc.readT Esc.readC at hrf
    cases hr : Esc.readL false l[i] with
    | some t =>
      rw [hr] at hrf
      simp only [Option.getD_some, Option.isSome_some, if_true] at hrf
      have hrv : readV (bl l[i]) = some (bt' t) := by unfold readV; rw [bl_bt, hr]; rfl
      (refine st_call hrf ?_ rfl rfl ?_; (focus ((repeat' (first | exact trivial | exact rfl | exact Or.inl rfl | exact Or.inr ⟨rfl, rfl⟩ | refine And.intro ?_ ?_)); done)); conv => whnf)
      refine ⟨rfl, cmp_false (fun h => h rfl) ?_⟩
      conv => whnf
      refine st_app (by rw [List.length_map]; simp; omega) (by intro c hc; simp at hc; rw [hc]; rfl) (zs := (vs ++ [bt' t]).map encS) (by rw [List.map_append]; rfl) ?_
      conv => whnf
      refine ⟨rfl, st_succ (by omega) ?_⟩
      conv => whnf
      exact ⟨(i + 1, vs ++ [bt' t]), [(4, some 29)], ⟨by dsimp only; omega, hok hil _ hrv⟩, by dsimp only; omega, ⟨rfl, rfl, ⟨⟨rfl, rfl, rfl⟩, .inl rfl, .inl rfl, .inl rfl, trivial⟩, trivial, ⟨rfl, trivial⟩⟩⟩
    | none =>
      rw [hr] at hrf
      simp only [Option.getD_none, Option.isSome_none, Bool.false_eq_true, if_false] at hrf
      have hrv : readV (bl l[i]) = none := by unfold readV; rw [bl_bt, hr]; rfl
      obtain ⟨h4, h5⟩ := hbad hil hrv
      (refine st_call hrf ?_ rfl rfl ?_; (focus ((repeat' (first | exact trivial | exact rfl | exact Or.inl rfl | exact Or.inr ⟨rfl, rfl⟩ | refine And.intro ?_ ?_)); done)); conv => whnf)
      refine ⟨rfl, cmp_true (by decide) ?_⟩
      conv => whnf
      unfold valuesT
      rw [h4, h5]
      conv => whnf
      exact ⟨⟨.inl rfl, .inl rfl, trivial⟩, rfl⟩
  · rw [List.length_map] at h
    conv => whnf
    rw [List.take_of_length_le (by omega)] at ha
    unfold valuesT
    rw [ha]
    conv => whnf
    exact ⟨⟨rfl, .inl rfl, trivial⟩, rfl⟩
/-! ### a text's end -/
def sufB (s t : ByteArray) : Bool := decide (t.size ≤ s.size) && decide (s.extract (s.size - t.size) s.size = t)
def cutE (s : ByteArray) (t : ByteArray) : ByteArray := if sufB s t = true then s.extract 0 (s.size - t.size) else s
theorem suf_fn {X : En} (s t : ByteArray) (hs : s.size ≤ 100000000) (ht : t.size ≤ 100000000) : Fn Tryz.prog X 125 [.v (.str s), .v (.str t)] (.v (.bool (sufB s t))) := by
  refine fn_prog tabOk mixed Tryz.f125 Tryz.func125 (by kernel_rfl) (by kernel_rfl) ?_
  conv => whnf
  refine ⟨rfl, cmp_split (fun h => ?_) (fun h => ?_)⟩
  · conv => whnf
    refine st_minus s.size t.size (by omega) (by omega) ?_
    conv => whnf
    refine st_cut (s.size - t.size) s.size rfl rfl (by omega) (by omega) ?_
    conv => whnf
    refine cmp_split (fun h2 => ?_) (fun h2 => ?_)
    all_goals
      conv => whnf
      exact ⟨.inl (congrArg V.bool (by unfold sufB; rw [decide_eq_true (by omega)]; simp [h2])), rfl⟩
  · conv => whnf
    exact ⟨.inl (congrArg V.bool (by unfold sufB; rw [decide_eq_false (by omega)]; rfl)), rfl⟩
theorem cutSuf2_fn {X : En} (s t : ByteArray) (hs : s.size ≤ 100000000) (ht : t.size ≤ 100000000) : Fn Tryz.prog X 115 [.v (.str s), .v (.str t)] (.tup [.v (.str (cutE s t)), .v (.bool (sufB s t))]) := by
  refine fn_prog tabOk mixed Tryz.f115 Tryz.func115 (by kernel_rfl) (by kernel_rfl) ?_
  conv => whnf
  refine st_callB (suf_fn s t hs ht) ⟨.inl rfl, .inl rfl, trivial⟩ rfl (fun h => ?_) (fun h => ?_)
  · conv => whnf
    have hle : t.size ≤ s.size := by unfold sufB at h; rw [Bool.and_eq_true] at h; exact of_decide_eq_true h.1
    refine st_minus s.size t.size hle (by omega) ?_
    conv => whnf
    refine st_cut 0 (s.size - t.size) rfl rfl (by omega) (by omega) ?_
    conv => whnf
    unfold cutE
    rw [h, if_pos rfl]
    exact ⟨⟨.inl rfl, .inl rfl, trivial⟩, rfl⟩
  · conv => whnf
    unfold cutE
    rw [h, if_neg (by decide)]
    exact ⟨⟨.inl rfl, .inl rfl, trivial⟩, rfl⟩
theorem cutSuf_fn {X : En} (s t : ByteArray) (hs : s.size ≤ 100000000) (ht : t.size ≤ 100000000) : Fn Tryz.prog X 105 [.v (.str s), .v (.str t)] (.tup [.v (.str (cutE s t)), .v (.bool (sufB s t))]) := by
  refine fn_prog tabOk mixed Tryz.f105 Tryz.func105 (by kernel_rfl) (by kernel_rfl) ?_
  conv => whnf
  (refine st_call (cutSuf2_fn s t hs ht) ?_ rfl rfl ?_; (focus ((repeat' (first | exact trivial | exact rfl | exact Or.inl rfl | exact Or.inr ⟨rfl, rfl⟩ | refine And.intro ?_ ?_)); done)); conv => whnf)
  exact ⟨⟨.inl rfl, .inl rfl, trivial⟩, rfl⟩
end Go.Proofs.YtajpgigeploodaaGreatDoor.Fi
/- The walk without memory: functions that leave a closure behind, which is run at their end. Whatever program. -/
namespace Go.Proofs.YtajpgigeploodaaGreatDoor
open Go.RowKit
set_option linter.unusedVariables false
variable {P : Program} {X : En} {tb : Tab}
/-- a region, whatever is wanted behind it -/
theorem region_wp (hT : TabOk P tb) (hm : P.follows .mixedOrders = true) {X0 : En} {id : Nat} {ops : Array Oper} {draw : Bool} {X : En} (hX : X.Le X0) {base N : Nat} {S : Nat → Prop} {F : Fence} {n : Nat} (hF : Open F) {Wr : Nat → Prop} (hWr : ∀ (j : Nat) (o : Oper) (d : Nat), ops[j]? = some o → o.dst = some d → Wr d) {Q : Exit → St → Prop} {st : St} {a : Act} {w : World} {g : Gh} {R : Exit → Act → World → Prop}
    (fin : ∀ a' w' st' g', Q .normal st' → Hd P X base S st' a' w' g' → Stp X base S N w g w' g' → a'.defers = a.defers → st'.n = N → (∀ t, ¬ Wr t → a'.tmps.getD t undef = a.tmps.getD t undef) → R .normal a' w') (hp : ∀ c a w, ¬ R (.panic c) a w)
    (h : aCode P X0 tb (.region id ops draw) Q st) (hd : Hd P X base S st a w g) (hn : st.n = N) : (Code.region id ops draw).wpIn F n P R a w := by
  cases draw with
  | false =>
    refine wpIn_region ?_
    rw [List.range_eq_range']
    unfold aCode at h
    dsimp only at h
    split at h
    rotate_left
    · have := lit_none (n := n) (Q := R) hX hF hT hWr (K := Q .normal) (M := ops.size) (Nat.le_refl _) (tl := []) (fun a' w' st' g' hq h => fin a' w' st' g' hq h.hd h.stp h.df h.n h.kp) ops.size 0 st a w g (by omega) (by rw [List.take_of_length_le (by rw [Array.length_toList]; exact Nat.le_refl _)]; exact h) ⟨hd, Stp.refl _ _ _ _ _ _, rfl, hn, fun _ _ => rfl⟩
      rw [List.append_nil] at this
      exact this
    exact ops_wp hX hF hT (K := Q .normal) (a0 := a) (w0 := w) (g0 := g) hWr fin ops.size 0 st a w g (by omega) h hd (Stp.refl _ _ _ _ _ _) rfl hn (fun _ _ => rfl)
  | true =>
    obtain ⟨sch0, hok, hs⟩ := h
    generalize sch0.getD (List.range ops.size) = sch at hok hs
    unfold regionOk at hok
    simp only [Bool.and_eq_true] at hok
    obtain ⟨⟨⟨o0, o1⟩, o2⟩, o3⟩ := hok
    refine wpIn_region_draw fun t => ?_
    simp only [Region.schedule, hm, Bool.true_or, if_true]
    have lnk : Lnk P X base S N Wr a w g st a { w with drawn := w.drawn + 1 } g := ⟨hd.drew, Stp.drew, rfl, hn, fun _ _ => rfl⟩
    have hqp := hp
    have fin' : ∀ a' w' st' g', Q .normal st' → Lnk P X base S N Wr a w g st' a' w' g' → R .normal a' w' := fun a' w' st' g' hq h => fin a' w' st' g' hq h.hd h.stp h.df h.n h.kp
    have anyk : AnyK F n P ops (R) ops.size (Array.replicate ops.size false) g st.lv a { w with drawn := w.drawn + 1 } := by
      by_cases hm9 : 9999 ∈ sch
      · cases sch with
        | nil => cases hm9
        | cons i r =>
          unfold takeOk at o3
          by_cases hi : i = 9999
          · subst hi
            unfold semSch at hs
            rw [show Nat.beq 9999 9999 = true from rfl] at hs
            dsimp only at hs
            obtain ⟨t, ht, st0, hs, hk⟩ := hs
            rw [Bool.and_eq_true] at ht
            rw [Array.length_toList, Array.toArray_toList] at ht
            exact (tr_anyK (n := n) (Q := R) hX hF hT o1 o2 (K := fun st' => St.le st' st0) hWr (fun a' w' st' g' hq h => fin' a' w' st0 g' hk ⟨h.hd.le' hq, h.stp, h.df, hq.n.symm.trans h.n, h.kp⟩) hqp t _ st a _ g hs lnk).1 ops.size (Nat.le_of_ble_eq_true ht.1) ht.2
          · exact (no9999 o3 hm9 hi).elim
      · exact sch_anyK (n := n) (Q := R) hX hF hT o1 o2 (K := Q .normal) hWr fin' hqp sch ops.size (Array.replicate ops.size false) st a _ g (Nat.le_of_ble_eq_true o0) hm9 o3 hs lnk
    have := anyk.any
    exact wpAnyIn_sound ops.size t _ a _ this
/-- no loops: nothing is left among what is deferred -/
def simpC : Code → Bool
  | .skip => true
  | .region _ _ _ => true
  | .seq a b => !isFrn a && (simpC a && simpC b)
  | .cond _ a b => simpC a && simpC b
  | .block _ b => simpC b
  | .exit _ => true
  | .ret => true
  | _ => false
def AftS (P : Program) (X : En) (base : Nat) (S : Nat → Prop) (N : Nat) (Wr : Nat → Prop) (a : Act) (w : World) (g : Gh) (Q : Exit → St → Prop) : Exit → Act → World → Prop := fun e a' w' =>
  ∃ st' g', Q e st' ∧ Hd P X base S st' a' w' g' ∧ Stp X base S N w g w' g' ∧ st'.n = N ∧ a'.defers = a.defers ∧ ∀ t, ¬ Wr t → a'.tmps.getD t undef = a.tmps.getD t undef
theorem simp_wp (hT : TabOk P tb) (hm : P.follows .mixedOrders = true) {X0 : En} : ∀ (c : Code), simpC c = true → ∀ (X : En) (hX : X.Le X0) (base N : Nat) (S : Nat → Prop) (F : Fence) (n : Nat) (hF : Open F) (Wr : Nat → Prop) (hW : ∀ t ∈ codeW c, Wr t) (Q : Exit → St → Prop) (st : St) (a : Act) (w : World) (g : Gh), (∀ ch st, ¬ Q (.panic ch) st) → aCode P X0 tb c Q st → Hd P X base S st a w g → st.n = N → c.wpIn F n P (AftS P X base S N Wr a w g Q) a w := by
  intro c
  have out : ∀ {X : En} {base N : Nat} {S : Nat → Prop} {Wr : Nat → Prop} {Q : Exit → St → Prop} {e : Exit} {st : St} {a : Act} {w : World} {g : Gh}, Q e st → Hd P X base S st a w g → st.n = N → AftS P X base S N Wr a w g Q e a w := fun h hd hn => ⟨_, _, h, hd, Stp.refl _ _ _ _ _ _, hn, rfl, fun _ _ => rfl⟩
  induction c with
  | skip => intro _ X hX base N S F n hF Wr hW Q st a w g hp h hd hn; exact wpIn_skip (out h hd hn)
  | exit id => intro _ X hX base N S F n hF Wr hW Q st a w g hp h hd hn; exact wpIn_exit (out h hd hn)
  | ret => intro _ X hX base N S F n hF Wr hW Q st a w g hp h hd hn; exact wpIn_ret (out h hd hn)
  | label l => intro hs; cases hs
  | goto l => intro hs; cases hs
  | scope b => intro hs; cases hs
  | refuse s => intro hs; cases hs
  | loop b => intro hs; cases hs
  | rangeFunc fo ps x y => intro hs; cases hs
  | region id ops draw =>
    intro _ X hX base N S F n hF Wr hW Q st a w g hp h hd hn
    exact region_wp hT hm hX hF (Wr := Wr) (fun j o d hj ho => hW d (List.mem_filterMap.2 ⟨o, by simpa using Array.mem_of_getElem? hj, ho⟩)) (fun a' w' st' g' h1 h2 h3 h4 h5 h6 => ⟨st', g', h1, h2, h3, h5, h4, h6⟩) (fun c a w ⟨st', _, h, _⟩ => hp c st' h) h hd hn
  | seq x y ihx ihy =>
    intro hs X hX base N S F n hF Wr hW Q st a w g hp h hd hn
    rw [simpC, Bool.and_eq_true, Bool.and_eq_true] at hs
    unfold aCode at h
    split at h
    rotate_left
    · rename_i hf; rw [hf] at hs; cases hs.1
    refine wpIn_seq (wpIn_mono (ihx hs.2.1 X hX base N S F n hF Wr (fun t ht => hW t (List.mem_append_left _ ht)) (seqQ (fun st' => aCode P X0 tb y Q st') Q) st a w g (fun ch st' hh => hp ch st' hh) h hd hn) ?_)
    rintro e a1 w1 ⟨st', g', q1, q2, q3, q4, q5, q6⟩
    cases e with
    | normal =>
      refine wpIn_mono (ihy hs.2.2 X hX base N S F n hF Wr (fun t ht => hW t (List.mem_append_right _ ht)) Q st' a1 w1 g' hp q1 q2 q4) ?_
      rintro e a2 w2 ⟨st2, g2, p1, p2, p3, p4, p5, p6⟩
      exact ⟨st2, g2, p1, p2, q3.trans p3, p4, p5.trans q5, fun t ht => (p6 t ht).trans (q6 t ht)⟩
    | exit id => exact ⟨st', g', q1, q2, q3, q4, q5, q6⟩
    | goto l => exact ⟨st', g', q1, q2, q3, q4, q5, q6⟩
    | ret => exact ⟨st', g', q1, q2, q3, q4, q5, q6⟩
    | panic ch => exact ⟨st', g', q1, q2, q3, q4, q5, q6⟩
    | outgrown => exact ⟨st', g', q1, q2, q3, q4, q5, q6⟩
  | cond c x y ihx ihy =>
    intro hs X hX base N S F n hF Wr hW Q st a w g hp h hd hn
    rw [simpC, Bool.and_eq_true] at hs
    unfold aCode at h
    have hc := hd.ev c
    split at h
    · rename_i hq
      rw [hq] at hc
      exact wpIn_cond_true hc (ihx hs.1 X hX base N S F n hF Wr (fun t ht => hW t (List.mem_append_left _ ht)) Q st a w g hp h hd hn)
    · rename_i hq
      rw [hq] at hc
      exact wpIn_cond_false hc (ihy hs.2 X hX base N S F n hF Wr (fun t ht => hW t (List.mem_append_right _ ht)) Q st a w g hp h hd hn)
    · exact h.elim
  | block id b ih =>
    intro hs X hX base N S F n hF Wr hW Q st a w g hp h hd hn
    refine wpIn_block (wpIn_mono (ih hs X hX base N S F n hF Wr hW (blockQ id Q) st a w g (fun ch st' hh => hp ch st' hh) h hd hn) ?_)
    rintro e a1 w1 ⟨st', g', q1, q2⟩
    cases e with
    | exit j =>
      unfold blockQ at q1
      dsimp only at q1
      split at q1
      · rename_i hb
        have : j = id := Nat.eq_of_beq_eq_true hb
        simp only [Exit.inBlock, this, if_true]
        exact ⟨st', g', q1, q2⟩
      · rename_i hb
        have : j ≠ id := fun e => by rw [e, Nat.beq_refl] at hb; cases hb
        simp only [Exit.inBlock, this, if_false]
        exact ⟨st', g', q1, q2⟩
    | normal => exact ⟨st', g', q1, q2⟩
    | goto l => exact ⟨st', g', q1, q2⟩
    | ret => exact ⟨st', g', q1, q2⟩
    | panic ch => exact ⟨st', g', q1, q2⟩
    | outgrown => exact ⟨st', g', q1, q2⟩
/-- THE CONTRACT OF A CLOSURE that is run at a function's end -/
def FnD (P : Program) (X : En) (f : FuncId) (css : List (List T)) (args : List T) (css' : List (List T)) : Prop := (∀ (vs : Array Value) (w : World), (callFunc f vs).run P w = .ok (.enter f vs) w) ∧ css'.map List.length = css.map List.length ∧ ∀ (u : FrameMode) (w : World) (g : Gh) (vs : List Value), X.E w → (∀ {b o}, g.L b o → ∃ u, w.cell? ⟨b, o, none⟩ = some u) → MemB P X w g css → RepTs P w g args vs →
  CallsDIn Fence.wide 0 P f vs.toArray u w fun e u' w' => u' = u ∧ ∃ v L', e = .returned v ∧ Upd (fun b => ∃ j, j < css.length ∧ b = (g.ρ j).1) w w' ∧ Same g.L w L' w' ∧ (∀ {b o}, L' b o → g.L b o ∨ w.heap.size ≤ b) ∧ (∀ {b o}, L' b o → ∃ u, w'.cell? ⟨b, o, none⟩ = some u) ∧ MemB P X w' { g with L := L' } css' ∧ (∀ {k : Nat} {o : Obj}, w.heap[k]? = some o → o.isCells = false → w'.heap[k]? = some o)
def endD (n : Nat) (css' : List (List T)) : Exit → St → Prop
  | .normal, st => bxEnd st n (shiftTss n css')
  | .ret, st => bxEnd st n (shiftTss n css')
  | _, _ => False
theorem fnD_prog (hT : TabOk P tb) (hm : P.follows .mixedOrders = true) {f : FuncId} (fn : Func) {args : List T} {css css' : List (List T)} (hf : P.funcs[f]? = some fn) (hb : (fn.name == "runtime.NumGoroutine" || fn.body.isNone) = false) (hs : simpC (bodyOf fn) = true) (hres : fn.results.isEmpty = true) (hn : Nat.ble args.length fn.ntmps = true) (hk : T.noKs args = true) (hp : T.noKss css = true) (hp' : T.noKss css' = true) (hlen : css'.map List.length = css.map List.length)
    (h : aCode P X tb (bodyOf fn) (endD fn.ntmps css') (St.headM fn.ntmps args css)) : FnD P X f css args css' := by
  cases hc : fn.body with
  | none => rw [hc] at hb; simp at hb
  | some c =>
    have hbd : bodyOf fn = c := by unfold bodyOf; rw [hc]
    rw [hbd] at hs h
    refine ⟨enter_of (by rw [hf, Option.map_some, hb]), hlen, fun u w g vs hE hL hmb hargs => ?_⟩
    have hd := headM (n := fn.ntmps) hn hk hp hE hL hmb hargs
    have hw := simp_wp hT hm c hs X ⟨fun _ h => h, fun _ h => h⟩ w.heap.size fn.ntmps _ Fence.wide 0 (.inl rfl) (fun _ => True) (fun _ _ => trivial) _ _ _ w _ (fun ch st h => h.elim) h hd rfl
    refine callsDIn_of_wp hf hc trivial (R := fun e w' => ∃ v L', e = .returned v ∧ Upd (fun b => ∃ j, j < css.length ∧ b = (g.ρ j).1) w w' ∧ Same g.L w L' w' ∧ (∀ {b o}, L' b o → g.L b o ∨ w.heap.size ≤ b) ∧ (∀ {b o}, L' b o → ∃ u, w'.cell? ⟨b, o, none⟩ = some u) ∧ MemB P X w' { g with L := L' } css' ∧ (∀ {k : Nat} {o : Obj}, w.heap[k]? = some o → o.isCells = false → w'.heap[k]? = some o)) (wpIn_mono hw ?_)
    rintro e a' w' ⟨st', g', q1, q2, q3, q4, q5, q6⟩
    have fin : bxEnd st' fn.ntmps (shiftTss fn.ntmps css') → a'.defers = [] ∧ ∃ v, (results fn a'.tmps).run P w' = .ok v w' ∧ (∃ v' L', Ending.returned v = .returned v' ∧ Upd (fun b => ∃ j, j < css.length ∧ b = (g.ρ j).1) w w' ∧ Same g.L w L' w' ∧ (∀ {b o}, L' b o → g.L b o ∨ w.heap.size ≤ b) ∧ (∀ {b o}, L' b o → ∃ u, w'.cell? ⟨b, o, none⟩ = some u) ∧ MemB P X w' { g with L := L' } css' ∧ (∀ {k : Nat} {o : Obj}, w.heap[k]? = some o → o.isCells = false → w'.heap[k]? = some o)) := fun hbe => by
      obtain ⟨e1, e2, e3, e4, e5, e6⟩ := endM hp' hlen q3 (Upd.refl _ _) q2 hbe
      have hr0 : fn.results = #[] := by simpa using hres
      refine ⟨q5, .tuple #[], ?_, _, g'.L, rfl, e1, e2, e3, e4, e5, e6⟩
      unfold results
      rw [hr0]
      simp
    cases e with
    | normal => exact fin q1
    | ret => exact fin q1
    | exit id => exact q1.elim
    | goto l => exact q1.elim
    | panic ch => exact q1.elim
    | outgrown => exact q1.elim
/-! ### a function that defers one closure -/
/-- the closure's run, at the end: what the variables hold then -/
def endQD (P : Program) (X : En) (tb : Tab) (d : Nat) (fc : FuncId) (Q : Exit → St → Prop) : Exit → St → Prop
  | .normal, st => match tget st.env d with
    | .fn f caps => f = fc ∧ ∃ (bx : List Nat) (css : List (List T)) (args : List T) (css' : List (List T)), FnD P X fc css args css' ∧ nodupB bx = true ∧ bxOk st bx bx css ∧ ArgLes bx caps args ∧ bsetsK bx st bx css' (Q .normal)
    | _ => False
  | .ret, st => match tget st.env d with
    | .fn f caps => f = fc ∧ ∃ (bx : List Nat) (css : List (List T)) (args : List T) (css' : List (List T)), FnD P X fc css args css' ∧ nodupB bx = true ∧ bxOk st bx bx css ∧ ArgLes bx caps args ∧ bsetsK bx st bx css' (Q .ret)
    | _ => False
  | _, _ => False
theorem leaves_marks_k {base : Nat} {S : Nat → Prop} {fn : Func} {R : Ending → World → Prop} {w0 : World} {tmps : Array Value} {ds : List Deferred} (hE0 : X.E w0) : ∀ (ms : List Nat) (st : St) (a : Act) (w : World) (g : Gh), Hd P X base S st a w g → MarksOk w0 w ms → (∀ w', Upd (fun b => w0.heap.size ≤ b) w w' → Hd P X base S st a w' g → (∀ {k : Nat} {o : Obj}, k < w0.heap.size → w.heap[k]? = some o → w'.heap[k]? = some o) → LeavesInM Fence.wide 1 P fn tmps R ds .returning w') → LeavesInM Fence.wide 1 P fn tmps R (marks ms ++ ds) .returning w
  | [], st, a, w, g, hd, hm, hR => hR w (Upd.refl _ _) hd (fun _ h => h)
  | m :: ms, st, a, w, g, hd, hm, hR => by
    obtain ⟨h1, h2⟩ := hm.2 m (by simp)
    have hmE : ¬ X.Eb m := fun hE => by have := X.lt hE0 hE; omega
    refine ⟨by simp, .inl ⟨m, _, rfl, run_takeDeferred h2, ?_⟩⟩
    have hnd := List.nodup_cons.1 hm.1
    refine leaves_marks_k hE0 ms st a _ g (hd.putObj _ h2 rfl rfl hmE) ⟨hnd.2, fun r' hr' => ?_⟩ fun w' hu hd' ho => hR w' (((putObj_upd w m _).mono fun k hk => (by rw [hk]; exact h1)).trans hu) hd' (fun {k o} hk hko => ho hk (by rw [World.putObj_heap_other (by omega)]; exact hko))
    obtain ⟨h3, h4⟩ := hm.2 r' (by simp [hr'])
    refine ⟨h3, ?_⟩
    rw [World.putObj_heap_other (fun e => hnd.1 (by rw [← e]; exact hr'))]
    exact h4
/-- A FUNCTION'S CONTRACT: its text begins with the variables and the closure that it leaves behind -/
theorem fnM_defer (hT : TabOk P tb) (hm : P.follows .mixedOrders = true) {f : FuncId} (fn : Func) {args : List T} {css css' : List (List T)} {r : T} {i0 i1 : Nat} {ops0 : Array Oper} {oM oD : Oper} {rest : Code} {d : Nat} {fc : FuncId} {cvs : Array Operand} {cl : Call}
    (hf : P.funcs[f]? = some fn) (hb : (fn.name == "runtime.NumGoroutine" || fn.body.isNone) = false) (hbody : bodyOf fn = .seq (.region i0 ops0 false) (.seq (.region i1 #[oM, oD] false) rest)) (hM : oM.op = .makeFunc (.func fc) #[] cvs) (hMd : oM.dst = some d) (hMg : oM.guard = none) (hD : oD.op = .defer cl) (hDc : cl.callee = .value (.tmp d)) (hDa : cl.args = #[]) (hDd : oD.dst = none) (hDg : oD.guard = none) (hdr : d ∉ codeW rest) (hdn : d < fn.ntmps)
    (hn : Nat.ble args.length fn.ntmps = true) (hk : T.noKs args = true) (hp : T.noKss css = true) (hp' : T.noKss css' = true) (hlen : css'.map List.length = css.map List.length)
    (h : aCode P X tb (.region i0 ops0 false) (seqQ (fun st1 => semOp tb (Cn P X) oM st1 fun t st' => aCode P X tb rest (endQD P X tb d fc (endQM tb fn.results.toList r fn.ntmps css')) (st'.put (some d) t)) (fun _ _ => False)) (St.headM fn.ntmps args css)) : FnM P X f css args r css' := by
  cases hc : fn.body with
  | none => rw [hc] at hb; simp at hb
  | some c =>
    have hbd : bodyOf fn = c := by unfold bodyOf; rw [hc]
    rw [hbd] at hbody
    subst hbody
    refine ⟨enter_of (by rw [hf, Option.map_some, hb]), hlen, fun w g vs hE hL hmb hargs => ?_⟩
    have hd := headM (n := fn.ntmps) hn hk hp hE hL hmb hargs
    have hXX : X.Le X := ⟨fun _ h => h, fun _ h => h⟩
    refine callsIn_wide.1 (callsIn_of_wp_marks (n := 1) hf hc trivial (wpIn_seq (wpIn_mono (simp_wp hT hm _ rfl X hXX w.heap.size fn.ntmps _ Fence.wide 1 (.inl rfl) (fun _ => True) (fun _ _ => trivial) _ _ _ w _ (fun ch st h => h.elim) h hd rfl) ?_)))
    rintro e a1 w1 ⟨st1, g1, q1, q2, q3, q4, q5, _⟩
    cases e with
    | exit id => exact q1.elim
    | goto l => exact q1.elim
    | ret => exact q1.elim
    | panic ch => exact q1.elim
    | outgrown => exact q1.elim
    | normal =>
      refine wpIn_seq (wpIn_region ?_)
      show wpOpsIn Fence.wide 1 P #[oM, oD] _ [0, 1] a1 w1
      have q1' : semOp tb (Cn P X) oM st1 (fun t st' => aCode P X tb rest (endQD P X tb d fc (endQM tb fn.results.toList r fn.ntmps css')) (st'.put (some d) t)) := q1
      obtain ⟨v1, t1, cells, _, m2, m3, m4, m5⟩ := ran_makeFunc hM q2 q1'
      have hcn : cells = [] := Classical.byContradiction fun e => by have := m5.1 e; rw [hM] at this; cases this
      have hsz : a1.tmps.size = fn.ntmps := by rw [q2.sz, q4]
      rw [wpOpsIn_cons]
      unfold wpOpIn
      simp only [show (#[oM, oD] : Array Oper)[0]? = some oM from rfl]
      rw [if_pos (by unfold Region.wanted; rw [hMg])]
      refine ⟨fun f _ => trivial, ?_⟩
      rw [Oper.semAt_plain _ _ _ (by rw [hM]; intro c h; cases h), m2 w1 (fun p hp => by rw [hcn] at hp; cases hp)]
      show wpOpsIn Fence.wide 1 P #[oM, oD] _ [1] (a1.put oM.dst v1) w1
      rw [hMd]
      have hfn : ∃ cs, v1 = .func (.func fc) #[] cs := by
        have hx := m2 w1 (fun p hp => by rw [hcn] at hp; cases hp)
        unfold execOp at hx
        simp only [hM, Instr.makeFunc, Array.map_empty, Sem.run_bind, Sem.run_pure, Result.andThen_ok] at hx
        injection hx with hx _
        injection hx with hx
        exact ⟨_, hx.symm⟩
      obtain ⟨cs, rfl⟩ := hfn
      have hed : (a1.put (some d) (.func (.func fc) #[] cs)).eval (.tmp d) = .func (.func fc) #[] cs := by
        show (a1.tmps.setIfInBounds d _).getD d undef = _
        simp [show d < a1.tmps.size by omega]
      rw [wpOpsIn_cons]
      unfold wpOpIn
      simp only [show (#[oM, oD] : Array Oper)[1]? = some oD from rfl]
      rw [if_pos (by unfold Region.wanted; rw [hDg])]
      refine ⟨fun f _ => trivial, ?_⟩
      have hrun : (Oper.semAt Fence.wide.round (a1.put (some d) (.func (.func fc) #[] cs)).eval oD).run P w1 = .ok (.defer { target := .fn (.func fc) cs, args := #[] }) w1 := by
        show (execOp _ oD).run P w1 = _
        unfold execOp
        simp only [hD, resolve, hDc, hed, hDa, Deferred.ofValue, Sem.run_bind, Sem.run_pure, Result.andThen_ok, Array.map_empty, Array.append_empty]
      rw [hrun]
      show rest.wpIn Fence.wide 1 P _ (({ a1.put (some d) (.func (.func fc) #[] cs) with defers := _ } : Act).put oD.dst undef) w1
      rw [hDd]
      show rest.wpIn Fence.wide 1 P _ { a1.put (some d) (.func (.func fc) #[] cs) with defers := { target := .fn (.func fc) cs, args := #[] } :: (a1.put (some d) (.func (.func fc) #[] cs)).defers } w1
      have hd2 := q2.put (some d) m3
      have hd3 : Hd P X w.heap.size (fun b => ∃ j, j < css.length ∧ b = (g.ρ j).1) (st1.put (some d) t1) { a1.put (some d) (.func (.func fc) #[] cs) with defers := { target := .fn (.func fc) cs, args := #[] } :: (a1.put (some d) (.func (.func fc) #[] cs)).defers } w1 g1 := ⟨hd2.sz, hd2.env, hd2.mm, hd2.E, hd2.le⟩
      have hw := code_wp hT hm rest X hXX w.heap.size fn.ntmps _ Fence.wide 1 (.inl rfl) (fun t => t ∈ codeW rest) (fun _ h => h) _ _ _ w1 _ (fun ch st h => h.elim) (fun l hl => by cases hl) m4 hd3 ((put_n _ _ _).trans q4)
      refine wpIn_mono hw ?_
      rintro e a2 w2 ⟨st2, g2, p1, p2, p3, p4, p5, ms, p6, p7⟩
      have hds : a2.defers = marks ms ++ [{ target := .fn (.func fc) cs, args := #[] }] := by
        rw [p6]
        show _ ++ _ :: (a1.put (some d) _).defers = _
        rw [put_defers, q5]
      have hval : a2.eval (.tmp d) = .func (.func fc) #[] cs := by
        show a2.tmps.getD d undef = _
        rw [p5 d hdr]
        exact hed
      have key : ∀ (ex : Exit), (match tget st2.env d with
          | .fn f caps => f = fc ∧ ∃ (bx : List Nat) (css0 : List (List T)) (args : List T) (css1 : List (List T)), FnD P X fc css0 args css1 ∧ nodupB bx = true ∧ bxOk st2 bx bx css0 ∧ ArgLes bx caps args ∧ bsetsK bx st2 bx css1 (endQM tb fn.results.toList r fn.ntmps css' ex)
          | _ => False) → (∀ st, endQM tb fn.results.toList r fn.ntmps css' ex st → match resTs tb st fn.results.toList with | some ts => resOk ts r ∧ bxEnd st fn.ntmps (shiftTss fn.ntmps css') | none => False) →
          LeavesInM Fence.wide 1 P fn a2.tmps (fun e w' => ∃ v L', e = .returned v ∧ Upd (fun b => ∃ j, j < css.length ∧ b = (g.ρ j).1) w w' ∧ Same g.L w L' w' ∧ (∀ {b o}, L' b o → g.L b o ∨ w.heap.size ≤ b) ∧ (∀ {b o}, L' b o → ∃ u, w'.cell? ⟨b, o, none⟩ = some u) ∧ MemB P X w' { g with L := L' } css' ∧ (∀ {k : Nat} {o : Obj}, w.heap[k]? = some o → o.isCells = false → w'.heap[k]? = some o) ∧ RepT P w' { g with L := L' } r v) a2.defers .returning w2 := fun ex hq hres => by
        split at hq <;> try exact hq.elim
        rename_i f' caps hfc
        obtain ⟨rfl, bx, css0, args0, css1, ⟨hen, hlen0, hcall⟩, hnb, hbx, hle, hK⟩ := hq
        obtain ⟨hK, hbl⟩ := bsetsK_eq hK
        have hres' := hres _ hK
        split at hres' <;> try exact hres'.elim
        rename_i ts hts
        obtain ⟨hro, hbe⟩ := hres'
        rw [hds]
        refine leaves_marks_k (w0 := w1) q2.E ms st2 a2 w2 g2 p2 p7 fun w3 hu3 hdX ho3 => ?_
        have hev := hdX.env d
        rw [hfc, hval] at hev
        obtain ⟨cs', he, hcaps⟩ := hev
        have hcs : cs' = cs := by injection he with _ _ h3; exact h3.symm
        subst hcs
        have hargs0 := ArgLes.rep (P := P) _ _ _ hle hcaps
        refine ⟨by simp, .inr ⟨by simp [Fence.wide], .func f', cs', f', cs', rfl, ?_, fun _ _ => trivial, ?_⟩⟩
        · show (invoke (.fn (.func f') cs') #[]).run P w3 = _
          simp only [invoke]
          rw [hen]
          simp
        refine CallsDIn.mono (hcall .returning w3 (g2.of bx) cs'.toList hdX.E hdX.mm.Lc (hdX.passed hXX hnb hbx) hargs0) ?_
        rintro e u' w4 ⟨rfl, v, L', rfl, hu4, hsm, hnw, hlt, hm4, hob⟩
        obtain ⟨b1, b2⟩ := hdX.back (N := fn.ntmps) hnb hbx hlen0 hu4 hsm hnw hlt hm4 hob
        show LeavesInM Fence.wide 1 P fn a2.tmps _ [] (settle .returning) w4
        obtain ⟨v5, r1, r2, r3⟩ := results_run hT b1 hts hro
        have st3 : Stp X w.heap.size (fun b => ∃ j, j < css.length ∧ b = (g.ρ j).1) fn.ntmps w (g.sh fn.ntmps) w3 g2 := by
          have h12 := q3.trans p3
          have hle12 := q3.upd.size
          refine ⟨⟨hu3.os.trans h12.upd.os, hu3.tape.trans h12.upd.tape, hu3.output.trans h12.upd.output, Nat.le_trans h12.upd.size hu3.size, fun k hk hs => ?_⟩, ⟨fun b o u h1 h2 => ?_, fun k o h1 h2 => ?_⟩, h12.newL, h12.rho, fun {k o} h1 h2 => ?_⟩
          · have hs2 := p3.upd.size
            rw [hu3.block k (by omega) (by omega)]
            exact h12.upd.block k hk hs
          · obtain ⟨h3, h4⟩ := h12.same.c b o u h1 h2
            have hbl := World.block_lt_of_cell? w _ h2
            exact ⟨h3, hu3.cell h4 (by dsimp only at *; omega)⟩
          · have hlt1 := (Array.getElem?_eq_some_iff.1 h1).1
            exact ho3 (by omega) (h12.same.m k o h1 h2)
          · have hlt1 := (Array.getElem?_eq_some_iff.1 h1).1
            exact ho3 (by omega) (h12.obj h1 h2)
        obtain ⟨e1, e2, e3, e4, e5, e6⟩ := endM hp' hlen (st3.trans b2) (Upd.refl _ _) b1 hbe
        exact ⟨v5, r1, v5, L', rfl, e1, e2, e3, e4, e5, e6, RepT.pure (g := { g2 with L := L' }) (g' := { g with L := L' }) (w' := w4) r3 (Same.refl _ _) r2⟩
      cases e with
      | normal => exact key .normal p1 (fun st h => h)
      | ret => exact key .ret p1 (fun st h => h)
      | exit id => exact p1.elim
      | goto l => exact p1.elim
      | panic ch => exact p1.elim
      | outgrown => exact p1.elim
end Go.Proofs.YtajpgigeploodaaGreatDoor
/- filt, walked: sets of filters, read: the closure at the end. Conditions: texts of at most 10^6 bytes. -/
namespace Go.Proofs.YtajpgigeploodaaGreatDoor.Fi
open Go.RowKit Go.Shelf Go.Lib Fl
set_option linter.unusedVariables false
theorem at_one (s : ByteArray) (a : Nat) (c : UInt8) : atB s a { data := #[c] } = decide (((bl s).drop a).head? = some c) := by
  have hl : (s.extract a s.size).data.toList = (bl s).drop a := by
    rw [Lib.extract_data, List.take_of_length_le (by rw [List.length_drop]; have := Txt.size_list s; unfold bl at *; omega)]
  unfold atB preB
  generalize s.extract a s.size = z at hl
  rw [← hl]
  have hz := Txt.size_list z
  cases hd : z.data.toList with
  | nil =>
    rw [hd] at hz
    have h0 : z.size = 0 := hz.symm
    rw [decide_eq_false (show ¬ ({ data := #[c] } : ByteArray).size ≤ z.size by rw [h0]; exact Nat.not_succ_le_zero 0)]
    rfl
  | cons x t =>
    rw [hd] at hz
    have h1 : 1 ≤ z.size := by rw [← hz]; simp
    rw [decide_eq_true (show ({ data := #[c] } : ByteArray).size ≤ z.size from h1), Bool.true_and, List.head?_cons]
    apply decide_eq_decide.2
    have e1 : (z.extract 0 ({ data := #[c] } : ByteArray).size).data.toList = [x] := by
      rw [Lib.extract_data, hd]; rfl
    constructor
    · intro h
      rw [h] at e1
      have : c = x := by simpa using e1
      rw [this]
    · intro h
      injection h with h
      apply ByteArray.ext
      apply Array.toList_inj.1
      rw [e1, h]
variable {X : En}
/-- a set's end: the closure, where something was wrong already -/
theorem end_err (s : ByteArray) (a : Nat) (i : Int) : FnD Tryz.prog X 103 [[.v (fErr i)], [.ptr 2 0], rdC s a] [.ptr 0 0, .ptr 1 0] [[.v (fErr i)], [.ptr 2 0], rdC s a] := by
  refine fnD_prog tabOk mixed Tryz.f103 Tryz.func103 (by kernel_rfl) (by kernel_rfl) (by kernel_rfl) (by kernel_rfl) rfl rfl rfl rfl ?_
  conv => whnf
  exact ⟨⟨.inl rfl, trivial⟩, ⟨⟨rfl, rfl⟩, trivial⟩, ⟨.inl rfl, .inl rfl, trivial⟩, trivial⟩
theorem end_ok (s : ByteArray) (hs : s.size ≤ 100000000) (a : Nat) (ha : a ≤ s.size) : FnD Tryz.prog X 103 [[.v .nili], [.ptr 2 0], rdC s a] [.ptr 0 0, .ptr 1 0] (if ((bl s).drop a).head? = some 41 then [[.v .nili], [.ptr 2 0], rdC s (a + 1)] else [[.v (fErr (a : Nat))], [.ptr 2 0], rdC s a]) := by
  have ht := takes_fn (X := X) s hs a ha { data := #[41] }
  rw [at_one] at ht
  by_cases hh : ((bl s).drop a).head? = some 41
  · rw [if_pos hh]
    rw [decide_eq_true hh, if_pos rfl] at ht
    refine fnD_prog tabOk mixed Tryz.f103 Tryz.func103 (by kernel_rfl) (by kernel_rfl) (by kernel_rfl) (by kernel_rfl) rfl rfl rfl rfl ?_
    conv => whnf
    (refine st_callM [20] (ht) rfl ?_ ?_ rfl ?_; (focus ((repeat' (first | exact trivial | exact rfl | exact Or.inl rfl | exact Or.inr ⟨rfl, rfl⟩ | refine And.intro ?_ ?_)); done)); (focus ((repeat' (first | exact trivial | exact rfl | exact Or.inl rfl | exact Or.inr ⟨rfl, rfl⟩ | refine And.intro ?_ ?_)); done)); conv => whnf)
    exact ⟨⟨.inl rfl, trivial⟩, ⟨⟨rfl, rfl⟩, trivial⟩, ⟨.inl rfl, .inl rfl, trivial⟩, trivial⟩
  · rw [if_neg hh]
    rw [decide_eq_false hh, if_neg (by decide)] at ht
    refine fnD_prog tabOk mixed Tryz.f103 Tryz.func103 (by kernel_rfl) (by kernel_rfl) (by kernel_rfl) (by kernel_rfl) rfl rfl rfl rfl ?_
    conv => whnf
    (refine st_callM [20] (ht) rfl ?_ ?_ rfl ?_; (focus ((repeat' (first | exact trivial | exact rfl | exact Or.inl rfl | exact Or.inr ⟨rfl, rfl⟩ | refine And.intro ?_ ?_)); done)); (focus ((repeat' (first | exact trivial | exact rfl | exact Or.inl rfl | exact Or.inr ⟨rfl, rfl⟩ | refine And.intro ?_ ?_)); done)); conv => whnf)
    exact ⟨⟨.inl rfl, trivial⟩, ⟨⟨rfl, rfl⟩, trivial⟩, ⟨.inl rfl, .inl rfl, trivial⟩, trivial⟩
end Go.Proofs.YtajpgigeploodaaGreatDoor.Fi
/- filt, plain: sets read as a loop; what is read is the beginning of a text. No program. -/
namespace Go.Proofs.YtajpgigeploodaaGreatDoor.Fl
open Go.Lib
set_option linter.unusedVariables false
theorem cutL_app (c : UInt8) : ∀ (r s t : List UInt8), cutL c r = some (s, t) → r = s ++ c :: t
  | [], s, t, h => by cases h
  | x :: r, s, t, h => by
    rw [cutL] at h
    by_cases hx : x = c
    · rw [if_pos hx] at h; cases h; rw [hx]; rfl
    · rw [if_neg hx] at h
      obtain ⟨⟨s', t'⟩, h1, h2⟩ := Option.map_eq_some_iff.1 h
      cases h2
      rw [cutL_app c r s' t' h1]; rfl
/-- what is read is not nothing -/
def Eats (rd : List UInt8 → Option (Flt × List UInt8)) : Prop := ∀ r x t, rd r = some (x, t) → ∃ p, p ≠ [] ∧ r = p ++ t
theorem loop_suf {rd : List UInt8 → Option (Flt × List UInt8)} (h : Eats rd) : ∀ (n : Nat) (r : List UInt8) (l : List Flt) (t : List UInt8), loopL rd n r = some (l, t) → ∃ p, r = p ++ t
  | 0, r, l, t, e => by rw [loopL] at e; cases e; exact ⟨[], rfl⟩
  | n + 1, r, l, t, e => by
    unfold loopL at e
    split at e
    · split at e
      · rename_i x r' hr
        obtain ⟨⟨l', t'⟩, h1, h2⟩ := Option.map_eq_some_iff.1 e
        cases h2
        obtain ⟨p, hp⟩ := loop_suf h n r' l' t' h1
        obtain ⟨q, _, hq⟩ := h _ _ _ hr
        exact ⟨q ++ p, by rw [hq, hp, List.append_assoc]⟩
      · cases e
    · cases e; exact ⟨[], rfl⟩
theorem loop_fuel {rd : List UInt8 → Option (Flt × List UInt8)} (h : Eats rd) : ∀ (n m : Nat) (r : List UInt8), r.length ≤ n → r.length ≤ m → loopL rd n r = loopL rd m r
  | 0, 0, r, _, _ => rfl
  | 0, m + 1, r, hn, _ => by
    have : r = [] := List.eq_nil_of_length_eq_zero (Nat.le_zero.1 hn)
    subst this
    rfl
  | n + 1, 0, r, _, hm => by
    have : r = [] := List.eq_nil_of_length_eq_zero (Nat.le_zero.1 hm)
    subst this
    rfl
  | n + 1, m + 1, r, hn, hm => by
    unfold loopL
    split
    · split
      · rename_i x r' hr
        obtain ⟨q, hq0, hq⟩ := h _ _ _ hr
        have h1 := congrArg List.length hq
        rw [List.length_append] at h1
        have h0 : q.length ≠ 0 := fun e => hq0 (List.eq_nil_of_length_eq_zero e)
        simp only [List.length_cons] at *
        rw [loop_fuel h n m r' (by omega) (by omega)]
      · rfl
    · rfl
/-- a set's filters, from a place on -/
def loopW (rd : List UInt8 → Option (Flt × List UInt8)) (r : List UInt8) : Option (List Flt × List UInt8) := loopL rd r.length r
theorem loop_in {rd : List UInt8 → Option (Flt × List UInt8)} (h : Eats rd) (r r' : List UInt8) (x : Flt) (h0 : r.head? = some 40) (hr : rd r = some (x, r')) : loopW rd r = (loopW rd r').map fun p => (x :: p.1, p.2) := by
  obtain ⟨q, hq0, hq⟩ := h _ _ _ hr
  have h1 : q.length ≠ 0 := fun e => hq0 (List.eq_nil_of_length_eq_zero e)
  have h2 := congrArg List.length hq
  rw [List.length_append] at h2
  unfold loopW
  cases r with
  | nil => cases h0
  | cons c r0 =>
    have hc : c = 40 := by simpa using h0
    subst hc
    rw [List.length_cons] at *
    rw [loopL, hr]
    dsimp only
    rw [loop_fuel h r0.length r'.length r' (by omega) (Nat.le_refl _)]
theorem loop_bad {rd : List UInt8 → Option (Flt × List UInt8)} (r : List UInt8) (h0 : r.head? = some 40) (hr : rd r = none) : loopW rd r = none := by
  unfold loopW
  cases r with
  | nil => cases h0
  | cons c r0 =>
    have hc : c = 40 := by simpa using h0
    subst hc
    rw [List.length_cons, loopL, hr]
theorem loop_out (rd : List UInt8 → Option (Flt × List UInt8)) (r : List UInt8) (h0 : r.head? ≠ some 40) : loopW rd r = some ([], r) := by
  unfold loopW
  cases r with
  | nil => rfl
  | cons c r0 =>
    have hc : c ≠ 40 := by simpa using h0
    rw [List.length_cons]
    unfold loopL
    split
    · rename_i e; injection e with e; exact absurd e hc
    · rfl
theorem set_some {rd : List UInt8 → Option (Flt × List UInt8)} {k : Int} {r : List UInt8} {f : Flt} {t : List UInt8} (h : setK rd k r = some (f, t)) : ∃ l, loopW rd r = some (l, 41 :: t) ∧ f = .mk k (bt' []) (bt' []) [] (bt' []) l := by
  unfold setK at h
  split at h
  · rename_i l t' hl
    cases h
    exact ⟨l, hl, rfl⟩
  · cases h
theorem rd_eats : ∀ d : Nat, Eats (rdF d)
  | 0 => fun r x t h => by cases h
  | d + 1 => fun r x t h => by
    have hs : ∀ (k : Int) (r0 : List UInt8), setK (rdF d) k r0 = some (x, t) → ∃ p, r0 = p ++ t := fun k r0 h => by
      obtain ⟨l, hl, _⟩ := set_some h
      obtain ⟨p, hp⟩ := loop_suf (rd_eats d) _ _ _ _ hl
      exact ⟨p ++ [41], by rw [hp, List.append_assoc]; rfl⟩
    unfold rdF at h
    split at h
    · split at h
      · obtain ⟨p, hp⟩ := hs _ _ h; exact ⟨40 :: 38 :: p, by simp, by rw [hp]; rfl⟩
      · obtain ⟨p, hp⟩ := hs _ _ h; exact ⟨40 :: 124 :: p, by simp, by rw [hp]; rfl⟩
      · obtain ⟨p, hp⟩ := hs _ _ h; exact ⟨40 :: 33 :: p, by simp, by rw [hp]; rfl⟩
      · split at h
        · rename_i s t' hc
          obtain ⟨f, _, h2⟩ := Option.map_eq_some_iff.1 h
          cases h2
          exact ⟨40 :: (s ++ [41]), by simp, by rw [cutL_app _ _ _ _ hc]; simp⟩
        · cases h
    · cases h
end Go.Proofs.YtajpgigeploodaaGreatDoor.Fl
