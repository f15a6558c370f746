/- Several texts, one behind the other. filt, walked: Parse. Conditions: texts of at most 10^8 bytes. The statements of latinerlaw08, walked: what they share. The statements FiltItems, FiltStars, FiltDigits of latinerlaw08, walked. -/
import Derived.Test.YtiafggoaedifdaaGreatDoorM24
import Derived.Test.YtiafggoaedifdaaGreatDoorM32
/- filt, walked: Parse. Conditions: texts of at most 10^8 bytes. -/
namespace Go.Proofs.YtiafggoaedifdaaGreatDoor.Fi
open Go.RowKit Go.Shelf Go.Lib Fl
set_option linter.unusedVariables false
variable (p : Nat → Addr)
/-! ### how much is read -/
theorem readR_len (s : ByteArray) : ∀ (f k : Nat) (l out : List UInt8), Esc.readR false s f k l = some out → out.length ≤ l.length + f
  | 0, k, l, out, h => by rw [Esc.readR] at h; cases h; omega
  | f + 1, k, l, out, h => by
    rw [Esc.readR] at h
    split at h
    · split at h
      · split at h
        · have := readR_len s f _ _ _ h
          rw [List.length_append, List.length_singleton] at this
          omega
        · cases h
      · split at h
        · cases h
        · have := readR_len s f _ _ _ h
          rw [List.length_append, List.length_singleton] at this
          omega
    · cases h; omega
theorem readV_len {z : List UInt8} {w : ByteArray} (h : readV z = some w) : w.size ≤ z.length := by
  unfold readV at h
  obtain ⟨l, hl, rfl⟩ := Option.map_eq_some_iff.1 h
  unfold Esc.readL at hl
  split at hl
  · cases hl
  · have := readR_len _ _ _ _ _ hl
    rw [← size_bl, bl_of]
    have hz : (bt' z).size = z.length := by rw [← size_bl, bl_of]
    rw [hz] at this
    simpa using this
theorem endK_len (x : List UInt8) : (endK x).2.length ≤ x.length := by
  unfold endK
  split
  · simp
  split
  · simp
  split
  · simp
  · simp
theorem allM_mem {α β : Type} (g : α → Option β) : ∀ (l : List α) (v : List β), Dn.allM g l = some v → ∀ y ∈ v, ∃ x ∈ l, g x = some y
  | [], v, h, y, hy => by cases h; cases hy
  | x :: r, v, h, y, hy => by
    rw [Dn.allM] at h
    cases hg : g x with
    | none => rw [hg] at h; cases h
    | some z =>
      rw [hg] at h
      dsimp only at h
      obtain ⟨w, hw, rfl⟩ := Option.map_eq_some_iff.1 h
      rcases List.mem_cons.1 hy with rfl | hy
      · exact ⟨x, by simp, hg⟩
      · obtain ⟨x', h1, h2⟩ := allM_mem g r w hw y hy
        exact ⟨x', by simp [h1], h2⟩
/-- an item is not too large -/
theorem item_mid {s : List UInt8} {f : Flt} (hs : s.length ≤ 100000000) (h : itemF s = some f) : midF f ∧ f.l = [] := by
  unfold itemF at h
  split at h
  · cases h
  rename_i x y hx
  have hxy := congrArg List.length (cutL_app 61 _ _ _ hx)
  rw [List.length_append, List.length_cons] at hxy
  have hz : ∀ l : List UInt8, (bt' l).size = l.length := fun l => by rw [← size_bl, bl_of]
  have he := endK_len x
  split at h
  · split at h
    · cases h
      exact ⟨⟨by rw [hz]; omega, Nat.zero_le _, Nat.zero_le _, Nat.zero_le _, Nat.zero_le _, trivial⟩, rfl⟩
    · split at h
      · rename_i w r hw
        cases h
        have hlen := allM_len _ _ _ hw
        rw [List.length_cons] at hlen
        have hsl := split_len 42 y
        have hsz : ∀ u ∈ w :: r, u.size ≤ 100000000 := fun u hu => by
          obtain ⟨z, hz1, hz2⟩ := allM_mem _ _ _ hw u hu
          have h1 := readV_len hz2
          have h2 := split_sub 42 y z hz1
          omega
        refine ⟨⟨by rw [hz]; omega, hsz w (by simp), ?_, by rw [List.length_dropLast]; omega, Nat.zero_le _, trivial⟩, rfl⟩
        cases hr : r.getLast? with
        | none => exact Nat.zero_le _
        | some u => exact hsz u (by simp [List.mem_of_getLast? hr])
      · cases h
  · obtain ⟨w, hw, rfl⟩ := Option.map_eq_some_iff.1 h
    have h1 := readV_len hw
    exact ⟨⟨by rw [hz]; omega, by omega, Nat.zero_le _, Nat.zero_le _, Nat.zero_le _, trivial⟩, rfl⟩
def RdMid (rd : List UInt8 → Option (Flt × List UInt8)) : Prop := ∀ r f t, r.length ≤ 100000000 → rd r = some (f, t) → midF f ∧ ∀ k, (preF k f).length + t.length ≤ r.length
theorem pre_pos (k : Nat) (f : Flt) : 1 ≤ (preF k f).length := by rw [preF_cons]; simp
theorem loop_mid {rd : List UInt8 → Option (Flt × List UInt8)} (h : RdMid rd) : ∀ (n : Nat) (r : List UInt8) (l : List Flt) (t : List UInt8), r.length ≤ 100000000 → loopL rd n r = some (l, t) → midFs l ∧ (∀ k, (preFs k l).length + t.length ≤ r.length) ∧ l.length + t.length ≤ r.length
  | 0, r, l, t, hr, e => by rw [loopL] at e; cases e; exact ⟨trivial, fun k => by show 0 + _ ≤ _; omega, by show 0 + _ ≤ _; omega⟩
  | n + 1, r, l, t, hr, e => by
    unfold loopL at e
    split at e
    · rename_i r0
      split at e
      · rename_i x r' hx
        obtain ⟨⟨l', t'⟩, h1, h2⟩ := Option.map_eq_some_iff.1 e
        cases h2
        obtain ⟨g1, g2⟩ := h _ _ _ hr hx
        have g0 := g2 0
        have gp := pre_pos 0 x
        obtain ⟨i1, i2, i3⟩ := loop_mid h n r' l' t' (by omega) h1
        refine ⟨⟨g1, i1⟩, fun k => ?_, by show l'.length + 1 + t'.length ≤ _; omega⟩
        have := g2 k
        have := i2 k
        show (preFs k (x :: l')).length + t'.length ≤ _
        rw [preFs, List.length_append]
        omega
      · cases e
    · cases e
      exact ⟨trivial, fun k => by show 0 + _ ≤ _; omega, by show 0 + _ ≤ _; omega⟩
theorem rd_mid : ∀ d : Nat, RdMid (rdF d)
  | 0 => fun r f t _ h => by cases h
  | d + 1 => fun r f t hr h => by
    have hs : ∀ (k : Int) (c : UInt8) (r0 : List UInt8), r = 40 :: c :: r0 → setK (rdF d) k r0 = some (f, t) → midF f ∧ ∀ k, (preF k f).length + t.length ≤ r.length := fun k c r0 e hset => by
      clear h
      subst e
      obtain ⟨l, hl, rfl⟩ := set_some hset
      simp only [List.length_cons] at hr ⊢
      obtain ⟨i1, i2, i3⟩ := loop_mid (rd_mid d) _ _ _ _ (by omega) hl
      rw [List.length_cons] at i3
      refine ⟨⟨Nat.zero_le _, Nat.zero_le _, Nat.zero_le _, Nat.zero_le _, by omega, i1⟩, fun k => ?_⟩
      have := i2 (k + 1)
      rw [preF, List.length_cons]
      rw [List.length_cons] at this
      omega
    unfold rdF at h
    split at h
    · split at h
      · exact hs _ _ _ rfl h
      · exact hs _ _ _ rfl h
      · exact hs _ _ _ rfl h
      · split at h
        · rename_i s t' hc
          obtain ⟨f', hi, h2⟩ := Option.map_eq_some_iff.1 h
          cases h2
          have h3 := congrArg List.length (cutL_app _ _ _ _ hc)
          rw [List.length_append, List.length_cons] at h3
          rw [List.length_cons] at hr
          obtain ⟨g1, g2⟩ := item_mid (by omega) hi
          refine ⟨g1, fun k => ?_⟩
          rw [preF_cons, g2, List.length_cons, List.length_cons]
          show 0 + 1 + _ ≤ _
          omega
        · cases h
    · cases h
/-! ### Parse -/
def paR (s : List UInt8) : T := match parsedF s with
  | some f => .tup [.v (.agg (cG f)), .v (.int .i64 0)]
  | none => .tup [.v (.agg (cG f0)), .v (.int .i64 80)]
theorem parsed_fn (s : ByteArray) (hs : s.size ≤ 100000000) : ∃ r, itOk (parsedF (bl s)) r ∧ (match r with | .tup [.v (.agg x), e] => (∃ f, x = cG f ∧ (parsedF (bl s) = none → f = f0)) ∧ (e = .v .nili ∨ ∃ i, e = .v (fErr i)) | _ => False) ∧ Fn Tryz.prog (envX p) 40 [.v (.str s)] r := by
  obtain ⟨r0, css, ho, hr⟩ := read_fn p s hs 6 0 (by omega) (Nat.zero_le _)
  rw [List.drop_zero] at ho
  unfold parsedF
  cases hrd : rdF 6 (bl s) with
  | none =>
    rw [hrd] at ho
    obtain ⟨g, i, a', ha', rfl, rfl⟩ := ho
    refine ⟨.tup [.v (.agg (cG f0)), .v (fErr i)], ⟨f0, i, rfl⟩, ⟨⟨f0, rfl, fun _ => rfl⟩, .inr ⟨i, rfl⟩⟩, ?_⟩
    refine fn_prog tabOk mixed Tryz.f40 Tryz.func40 (by kernel_rfl) (by kernel_rfl) ?_
    conv => whnf
    (refine st_callM [10] (hr) rfl ?_ ?_ rfl ?_; (focus ((repeat' (first | exact trivial | exact rfl | exact Or.inl rfl | exact Or.inr ⟨rfl, rfl⟩ | refine And.intro ?_ ?_)); done)); (focus ((repeat' (first | exact trivial | exact rfl | exact Or.inl rfl | exact Or.inr ⟨rfl, rfl⟩ | refine And.intro ?_ ?_)); done)); conv => whnf)
    exact ⟨⟨.inr ⟨rfl, rfl⟩, .inl rfl, trivial⟩, rfl⟩
  | some q =>
    obtain ⟨f, t⟩ := q
    rw [hrd] at ho
    obtain ⟨rfl, rfl⟩ := ho
    obtain ⟨g1, g2⟩ := rd_mid 6 _ _ _ (by rw [size_bl]; exact hs) hrd
    have g3 := g2 1
    rw [size_bl] at g3
    cases t with
    | cons c t' =>
      refine ⟨.tup [.v (.agg (cG f0)), .v (fErr (s.size - (c :: t').length : Nat))], ⟨f0, _, rfl⟩, ⟨⟨f0, rfl, fun _ => rfl⟩, .inr ⟨_, rfl⟩⟩, ?_⟩
      refine fn_prog tabOk mixed Tryz.f40 Tryz.func40 (by kernel_rfl) (by kernel_rfl) ?_
      conv => whnf
      (refine st_callM [10] (hr) rfl ?_ ?_ rfl ?_; (focus ((repeat' (first | exact trivial | exact rfl | exact Or.inl rfl | exact Or.inr ⟨rfl, rfl⟩ | refine And.intro ?_ ?_)); done)); (focus ((repeat' (first | exact trivial | exact rfl | exact Or.inl rfl | exact Or.inr ⟨rfl, rfl⟩ | refine And.intro ?_ ?_)); done)); conv => whnf)
      refine ⟨rfl, cmp_true (by rw [List.length_cons] at g3 ⊢; omega) ?_⟩
      conv => whnf
      exact ⟨⟨.inr ⟨rfl, rfl⟩, .inl rfl, trivial⟩, rfl⟩
    | nil =>
      by_cases hR : rightF 1 f = true
      · dsimp only
        rw [if_pos hR]
        refine ⟨.tup [.v (.agg (cG f)), .v .nili], rfl, ⟨⟨f, rfl, fun h => by cases h⟩, .inl rfl⟩, ?_⟩
        refine fn_prog tabOk mixed Tryz.f40 Tryz.func40 (by kernel_rfl) (by kernel_rfl) ?_
        conv => whnf
        (refine st_callM [10] (hr) rfl ?_ ?_ rfl ?_; (focus ((repeat' (first | exact trivial | exact rfl | exact Or.inl rfl | exact Or.inr ⟨rfl, rfl⟩ | refine And.intro ?_ ?_)); done)); (focus ((repeat' (first | exact trivial | exact rfl | exact Or.inl rfl | exact Or.inr ⟨rfl, rfl⟩ | refine And.intro ?_ ?_)); done)); conv => whnf)
        refine ⟨rfl, cmp_false (by rw [List.length_nil]; omega) ?_⟩
        conv => whnf
        have hrf := right_fn p f g1 (by omega)
        rw [hR] at hrf
        (refine st_call hrf ?_ rfl rfl ?_; (focus ((repeat' (first | exact trivial | exact rfl | exact Or.inl rfl | exact Or.inr ⟨rfl, rfl⟩ | refine And.intro ?_ ?_)); done)); conv => whnf)
        exact ⟨⟨.inl rfl, .inl rfl, trivial⟩, rfl⟩
      · dsimp only
        rw [if_neg hR]
        refine ⟨.tup [.v (.agg (cG f0)), .v (fErr (s.size - ([] : List UInt8).length : Nat))], ⟨f0, _, rfl⟩, ⟨⟨f0, rfl, fun _ => rfl⟩, .inr ⟨_, rfl⟩⟩, ?_⟩
        refine fn_prog tabOk mixed Tryz.f40 Tryz.func40 (by kernel_rfl) (by kernel_rfl) ?_
        conv => whnf
        (refine st_callM [10] (hr) rfl ?_ ?_ rfl ?_; (focus ((repeat' (first | exact trivial | exact rfl | exact Or.inl rfl | exact Or.inr ⟨rfl, rfl⟩ | refine And.intro ?_ ?_)); done)); (focus ((repeat' (first | exact trivial | exact rfl | exact Or.inl rfl | exact Or.inr ⟨rfl, rfl⟩ | refine And.intro ?_ ?_)); done)); conv => whnf)
        refine ⟨rfl, cmp_false (by rw [List.length_nil]; omega) ?_⟩
        conv => whnf
        have hrf := right_fn p f g1 (by omega)
        rw [show rightF 1 f = false by simpa using hR] at hrf
        (refine st_call hrf ?_ rfl rfl ?_; (focus ((repeat' (first | exact trivial | exact rfl | exact Or.inl rfl | exact Or.inr ⟨rfl, rfl⟩ | refine And.intro ?_ ?_)); done)); conv => whnf)
        exact ⟨⟨.inr ⟨rfl, rfl⟩, .inl rfl, trivial⟩, rfl⟩
theorem parse_fn (s : ByteArray) (hs : s.size ≤ 100000000) : Fn Tryz.prog (envX p) 20 [.v (.str s)] (paR (bl s)) := by
  obtain ⟨r, ho, hx, hr⟩ := parsed_fn p s hs
  unfold paR
  cases hp : parsedF (bl s) with
  | none =>
    rw [hp] at ho hx
    obtain ⟨g, i, rfl⟩ := ho
    obtain ⟨⟨g', e1, e2⟩, _⟩ := hx
    rw [e2 rfl] at e1
    rw [e1] at hr
    refine fn_prog tabOk mixed Tryz.f20 Tryz.func20 (by kernel_rfl) (by kernel_rfl) ?_
    conv => whnf
    (refine st_call hr ?_ rfl rfl ?_; (focus ((repeat' (first | exact trivial | exact rfl | exact Or.inl rfl | exact Or.inr ⟨rfl, rfl⟩ | refine And.intro ?_ ?_)); done)); conv => whnf)
    refine ⟨none, by kernel_rfl, ?_⟩; conv => whnf
    (refine st_call (told_wrong_fn p i) ?_ rfl rfl ?_; (focus ((repeat' (first | exact trivial | exact rfl | exact Or.inl rfl | exact Or.inr ⟨rfl, rfl⟩ | refine And.intro ?_ ?_)); done)); conv => whnf)
    exact ⟨⟨.inl rfl, .inl rfl, trivial⟩, rfl⟩
  | some f =>
    rw [hp] at ho
    obtain rfl := ho
    refine fn_prog tabOk mixed Tryz.f20 Tryz.func20 (by kernel_rfl) (by kernel_rfl) ?_
    conv => whnf
    (refine st_call hr ?_ rfl rfl ?_; (focus ((repeat' (first | exact trivial | exact rfl | exact Or.inl rfl | exact Or.inr ⟨rfl, rfl⟩ | refine And.intro ?_ ?_)); done)); conv => whnf)
    refine ⟨none, by kernel_rfl, ?_⟩; conv => whnf
    (refine st_call (told_nil_fn p) ?_ rfl rfl ?_; (focus ((repeat' (first | exact trivial | exact rfl | exact Or.inl rfl | exact Or.inr ⟨rfl, rfl⟩ | refine And.intro ?_ ?_)); done)); conv => whnf)
    exact ⟨⟨.inl rfl, .inl rfl, trivial⟩, rfl⟩
end Go.Proofs.YtiafggoaedifdaaGreatDoor.Fi
/- The statements of latinerlaw08, walked: what they share. -/
namespace Go.Proofs.YtiafggoaedifdaaGreatDoor.Fi
open Go.RowKit Go.Shelf Go.Lib Fl
set_option linter.unusedVariables false
/-! nil slices, however deep -/
variable {X : En}
theorem texts_fn (a b : List ByteArray) (ha : a.length ≤ 1000000000) : Fn Tryz.prog X 23 [.v (.sl (a.map encS)), .v (.sl (b.map encS))] (.v (.bool (decide (a = b)))) := by
  refine fn_prog tabOk mixed Tryz.f23 Tryz.func23 (by kernel_rfl) (by kernel_rfl) ?_
  conv => whnf
  refine ⟨rfl, cmp_split (fun h => ?_) (fun h => ?_)⟩
  · rw [List.length_map, List.length_map] at h
    conv => whnf
    exact ⟨.inl (congrArg V.bool (decide_eq_false (fun e => h (by rw [e]))).symm), rfl⟩
  rw [List.length_map, List.length_map] at h
  have hab : a.length = b.length := by omega
  conv => whnf
  refine ⟨Nat, fun i => ⟨26, [(0, .v (.sl (a.map encS))), (1, .v (.sl (b.map encS))), (5, .v (.int .i64 (i : Nat)))], [], []⟩, fun i => i ≤ a.length ∧ a.take i = b.take i, fun i => a.length - i, ⟨0, [], ⟨by omega, by simp⟩, ?_⟩, fun i ⟨hi, he⟩ => ?_⟩
  · (focus ((repeat' (first | exact trivial | exact rfl | exact Or.inl rfl | exact Or.inr ⟨rfl, rfl⟩ | refine And.intro ?_ ?_)); done))
  conv => whnf
  refine ⟨rfl, cmp_split (fun h => ?_) (fun h => ?_)⟩
  · rw [List.length_map] at h
    have hil : i < a.length := by omega
    have hib : i < b.length := by omega
    conv => whnf
    refine ⟨none, by kernel_rfl, ?_⟩; conv => whnf
    refine st_idx hil rfl ?_
    conv => whnf
    refine st_idx hib rfl ?_
    conv => whnf
    refine cmp_split (fun h2 => ?_) (fun h2 => ?_)
    · conv => whnf
      exact ⟨.inl (congrArg V.bool (decide_eq_false (fun e => h2 (by subst e; rfl))).symm), rfl⟩
    · conv => whnf
      refine ⟨rfl, st_succ (by omega) ?_⟩
      conv => whnf
      refine ⟨i + 1, [], ⟨by omega, ?_⟩, by dsimp only; omega, ?_⟩
      · rw [List.take_succ_eq_append_getElem hil, List.take_succ_eq_append_getElem hib, he, Classical.not_not.1 h2]
      · (focus ((repeat' (first | exact trivial | exact rfl | exact Or.inl rfl | exact Or.inr ⟨rfl, rfl⟩ | refine And.intro ?_ ?_)); done))
  · rw [List.length_map] at h
    conv => whnf
    rw [List.take_of_length_le (by omega), List.take_of_length_le (by omega)] at he
    exact ⟨.inl (congrArg V.bool (decide_eq_true he).symm), rfl⟩
theorem hex_fn (s : ByteArray) (hs : s.size ≤ 100000000) : Fn Tryz.prog X 27 [.v (.str s)] (.v (.str (bt' (Code.hexL (bl s))))) :=
  Fn.of_plain (enter_of (by kernel_rfl)) rfl fun w L vs hE ha => by
    obtain ⟨v, rfl, h⟩ := one_arg ha
    rw [show v = _ from h]
    exact Code.hex_calls s w hs
/-! ### some filters are known -/
def xF : Flt := .mk 0 (bt' []) (bt' []) [] (bt' []) [.mk 3 (bt' [97]) (bt' [49]) [] (bt' []) [], .mk 2 (bt' []) (bt' []) [] (bt' []) [.mk 4 (bt' [98]) (bt' [120]) [] (bt' [121]) []]]
def xT : List UInt8 := [40, 38, 40, 97, 61, 49, 41, 40, 33, 40, 98, 61, 120, 42, 121, 41, 41, 41]
theorem xF_right : rightF 1 xF = true := by decide +kernel
theorem xF_text : prF xF = xT := by decide +kernel
theorem xF_names : namesF xF = [bt' [97], bt' [98]] := by
  unfold namesF
  rw [if_pos xF_right]
  decide +kernel
theorem x2 : parsedF [40, 97, 61, 42, 41] = some (.mk 7 (bt' [97]) (bt' []) [] (bt' []) []) := by kernel_rfl
theorem x3 : parsedF [40, 97, 61, 42, 42, 41] = none := by kernel_rfl
variable (p : Nat → Addr)
def xV : V := .agg [.int .i64 0, .str (bt' []), .str (bt' []), .nils, .str (bt' []), .sl [[.int .i64 3, .str (bt' [97]), .str (bt' [49]), .nils, .str (bt' []), .nils], [.int .i64 2, .str (bt' []), .str (bt' []), .nils, .str (bt' []), .sl [[.int .i64 4, .str (bt' [98]), .str (bt' [120]), .nils, .str (bt' [121]), .nils]]]]]
theorem xV_nz : nzd xV = .agg (cG xF) := rfl
theorem xF_mid : midF xF := by
  refine ⟨?_, ?_, ?_, ?_, ?_, ⟨?_, ?_, ?_, ?_, ?_, trivial⟩, ⟨?_, ?_, ?_, ?_, ?_, ⟨?_, ?_, ?_, ?_, ?_, trivial⟩, trivial⟩, trivial⟩ <;> decide
theorem shown_fn : Fn Tryz.prog (envX p) 16 [] (.v (.bool true)) := by
  have h1 := Fn.arg1 (print_fn p xF xF_mid (by decide)) (deep xV_nz)
  unfold prR at h1
  rw [if_pos xF_right, xF_text] at h1
  have h2 := parse_fn p (bt' xT) (by decide)
  unfold paR at h2
  rw [bl_of, ← xF_text, parsed_print xF xF_right] at h2
  have h3 := parse_fn p { data := #[40, 97, 61, 42, 41] } (by decide)
  unfold paR at h3
  rw [show bl { data := #[40, 97, 61, 42, 41] } = [40, 97, 61, 42, 41] from rfl, x2] at h3
  have h4 := parse_fn p { data := #[40, 97, 61, 42, 42, 41] } (by decide)
  unfold paR at h4
  rw [show bl { data := #[40, 97, 61, 42, 42, 41] } = [40, 97, 61, 42, 42, 41] from rfl, x3] at h4
  have h5 := Fn.arg1 (names_fn p xF xF_mid (by decide)) (deep xV_nz)
  rw [xF_names] at h5
  have h6 := Fn.arg1 (same_fn (X := envX p) xF xF xF_mid xF_mid) (deep xV_nz)
  rw [sameF_refl] at h6
  have h7 := texts_fn (X := envX p) [bt' [97], bt' [98]] [bt' [97], bt' [98]] (by decide)
  rw [decide_eq_true rfl] at h7
  have h8 := name_fn p { data := #[99, 110, 59, 108, 97, 110, 103, 45, 100, 101] } (by decide)
  rw [show nameB (bl { data := #[99, 110, 59, 108, 97, 110, 103, 45, 100, 101] }) = true by decide +kernel] at h8
  have h9 := name_fn p { data := #[99, 110, 59] } (by decide)
  rw [show nameB (bl { data := #[99, 110, 59] }) = false by decide +kernel] at h9
  refine fn_prog tabOk mixed Tryz.f16 Tryz.func16 (by kernel_rfl) (by kernel_rfl) ?_
  conv => whnf
  (refine st_call h1 ?_ rfl rfl ?_; (focus ((repeat' (first | exact trivial | exact rfl | exact Or.inl rfl | exact Or.inr ⟨rfl, rfl⟩ | refine And.intro ?_ ?_)); done)); conv => whnf)
  (refine st_call h2 ?_ rfl rfl ?_; (focus ((repeat' (first | exact trivial | exact rfl | exact Or.inl rfl | exact Or.inr ⟨rfl, rfl⟩ | refine And.intro ?_ ?_)); done)); conv => whnf)
  (refine st_call h3 ?_ rfl rfl ?_; (focus ((repeat' (first | exact trivial | exact rfl | exact Or.inl rfl | exact Or.inr ⟨rfl, rfl⟩ | refine And.intro ?_ ?_)); done)); conv => whnf)
  (refine st_call h4 ?_ rfl rfl ?_; (focus ((repeat' (first | exact trivial | exact rfl | exact Or.inl rfl | exact Or.inr ⟨rfl, rfl⟩ | refine And.intro ?_ ?_)); done)); conv => whnf)
  (refine st_call h5 ?_ rfl rfl ?_; (focus ((repeat' (first | exact trivial | exact rfl | exact Or.inl rfl | exact Or.inr ⟨rfl, rfl⟩ | refine And.intro ?_ ?_)); done)); conv => whnf)
  refine cmp_true rfl ?_
  conv => whnf
  refine ⟨rfl, cmp_true rfl ?_⟩
  conv => whnf
  refine ⟨rfl, cmp_true rfl ?_⟩
  conv => whnf
  (refine st_call h6 ?_ rfl rfl ?_; (focus ((repeat' (first | exact trivial | exact rfl | exact Or.inl rfl | exact Or.inr ⟨rfl, rfl⟩ | refine And.intro ?_ ?_)); done)); conv => whnf)
  refine ⟨rfl, cmp_true rfl ?_⟩
  conv => whnf
  refine ⟨rfl, cmp_true rfl ?_⟩
  conv => whnf
  refine ⟨rfl, cmp_true rfl ?_⟩
  conv => whnf
  (refine st_call h7 ?_ rfl rfl ?_; (focus ((repeat' (first | exact trivial | exact rfl | exact Or.inl rfl | exact Or.inr ⟨rfl, rfl⟩ | refine And.intro ?_ ?_)); done)); conv => whnf)
  (refine st_call h8 ?_ rfl rfl ?_; (focus ((repeat' (first | exact trivial | exact rfl | exact Or.inl rfl | exact Or.inr ⟨rfl, rfl⟩ | refine And.intro ?_ ?_)); done)); conv => whnf)
  (refine st_call h9 ?_ rfl rfl ?_; (focus ((repeat' (first | exact trivial | exact rfl | exact Or.inl rfl | exact Or.inr ⟨rfl, rfl⟩ | refine And.intro ?_ ?_)); done)); conv => whnf)
  exact ⟨.inl rfl, rfl⟩
end Go.Proofs.YtiafggoaedifdaaGreatDoor.Fi
/- The statements FiltItems, FiltStars, FiltDigits of latinerlaw08, walked. -/
namespace Go.Proofs.YtiafggoaedifdaaGreatDoor.Fi
open Go.RowKit Go.Shelf Go.Lib Fl
set_option linter.unusedVariables false
variable (p : Nat → Addr)
theorem sz_bt (l : List UInt8) : (bt' l).size = l.length := by rw [← size_bl, bl_of]
theorem cut61 (s : ByteArray) : (s.extract 0 (min s.size 61)).size ≤ 61 := by rw [ByteArray.size_extract]; omega
set_option maxHeartbeats 8000000 in
theorem items_law (name value : ByteArray) (k : Int) : Fn Tryz.prog (envX p) 5 [.v (.str name), .v (.str value), .v (.int .i64 k)] (.v (.bool true)) := by
  refine fn_prog tabOk mixed Tryz.f5 Tryz.func5 (by kernel_rfl) (by kernel_rfl) ?_
  conv => whnf
  (refine st_call (shown_fn p) ?_ rfl rfl ?_; (focus ((repeat' (first | exact trivial | exact rfl | exact Or.inl rfl | exact Or.inr ⟨rfl, rfl⟩ | refine And.intro ?_ ?_)); done)); conv => whnf)
  refine st_min 61 ?_
  conv => whnf
  refine st_cut 0 (min name.size 61) rfl rfl (by omega) (by omega) ?_
  conv => whnf
  refine st_min 61 ?_
  conv => whnf
  refine st_cut 0 (min value.size 61) rfl rfl (by omega) (by omega) ?_
  conv => whnf
  have hn := cut61 name
  have hv := cut61 value
  generalize name.extract 0 (min name.size 61) = n at *
  generalize value.extract 0 (min value.size 61) = v at *
  refine ⟨rfl, cmp_split (fun h3 => ?_) (fun h3 => ?_)⟩
  · subst h3
    conv => whnf
    have hp := print_fn p (.mk 3 n v [] (bt' []) []) ⟨by omega, by omega, Nat.zero_le _, Nat.zero_le _, Nat.zero_le _, trivial⟩ (by show 1 ≤ 900000000; decide)
    unfold prR at hp
    have hir := item_right 3 (by decide) n v
    have hnm := name_fn p n (by omega)
    by_cases hg : nameB (bl n) = true ∧ v.size ≤ 60
    · have hrt : rightF 1 (.mk 3 n v [] (bt' []) []) = true := by rw [hir, hg.1, decide_eq_true hg.2]; rfl
      rw [if_pos hrt, item_text 3 (by decide) n v] at hp
      rw [hg.1] at hnm
      have he := esc60 hg.2
      (refine st_call hp ?_ rfl rfl ?_; (focus ((repeat' (first | exact trivial | exact rfl | exact Or.inl rfl | exact Or.inr ⟨rfl, rfl⟩ | refine And.intro ?_ ?_)); done)); conv => whnf)
      refine ⟨rfl, cmp_false (fun h => h rfl) ?_⟩
      conv => whnf
      (refine st_call hnm ?_ rfl rfl ?_; (focus ((repeat' (first | exact trivial | exact rfl | exact Or.inl rfl | exact Or.inr ⟨rfl, rfl⟩ | refine And.intro ?_ ?_)); done)); conv => whnf)
      refine st_cat (by show 1 + n.size ≤ 9223372036854775807; omega) (z := bt' (40 :: bl n)) (cat_bt [40] (bl n)) ?_
      conv => whnf
      refine st_cat (by rw [sz_bt, List.length_cons, size_bl]; show _ + 1 ≤ 9223372036854775807; omega) (z := bt' (40 :: bl n ++ [61])) (cat_bt _ [61]) ?_
      conv => whnf
      (refine st_call (escFilter_fn (X := envX p) v (by omega)) ?_ rfl rfl ?_; (focus ((repeat' (first | exact trivial | exact rfl | exact Or.inl rfl | exact Or.inr ⟨rfl, rfl⟩ | refine And.intro ?_ ?_)); done)); conv => whnf)
      refine st_cat (by rw [sz_bt, sz_bt, List.length_append, List.length_cons, size_bl]; simp; omega) (z := bt' (40 :: bl n ++ [61] ++ escF (bl v))) (cat_bt _ _) ?_
      conv => whnf
      refine st_cat (by rw [sz_bt, List.length_append, List.length_append, List.length_cons, size_bl]; simp; show _ + 1 ≤ _; omega) (z := bt' (40 :: bl n ++ [61] ++ escF (bl v) ++ [41])) (cat_bt _ [41]) ?_
      conv => whnf
      refine cmp_true (by show bt' _ = bt' _; congr 1) ?_
      conv => whnf
      exact ⟨.inl rfl, rfl⟩
    · have hrt : ¬ rightF 1 (.mk 3 n v [] (bt' []) []) = true := by
        rw [hir, Bool.and_eq_true]
        exact fun h => hg ⟨h.1, of_decide_eq_true h.2⟩
      rw [if_neg hrt] at hp
      (refine st_call hp ?_ rfl rfl ?_; (focus ((repeat' (first | exact trivial | exact rfl | exact Or.inl rfl | exact Or.inr ⟨rfl, rfl⟩ | refine And.intro ?_ ?_)); done)); conv => whnf)
      refine ⟨rfl, cmp_true (by decide) ?_⟩
      conv => whnf
      cases hq : nameB (bl n)
      · rw [hq] at hnm
        (refine st_call hnm ?_ rfl rfl ?_; (focus ((repeat' (first | exact trivial | exact rfl | exact Or.inl rfl | exact Or.inr ⟨rfl, rfl⟩ | refine And.intro ?_ ?_)); done)); conv => whnf)
        exact ⟨.inl rfl, rfl⟩
      · rw [hq] at hnm
        (refine st_call hnm ?_ rfl rfl ?_; (focus ((repeat' (first | exact trivial | exact rfl | exact Or.inl rfl | exact Or.inr ⟨rfl, rfl⟩ | refine And.intro ?_ ?_)); done)); conv => whnf)
        refine ⟨rfl, cmp_true (by have : ¬ v.size ≤ 60 := fun h => hg ⟨hq, h⟩; omega) ?_⟩
        conv => whnf
        exact ⟨.inl rfl, rfl⟩
  conv => whnf
  refine ⟨rfl, cmp_split (fun h5 => ?_) (fun h5 => ?_)⟩
  · subst h5
    conv => whnf
    have hp := print_fn p (.mk 5 n v [] (bt' []) []) ⟨by omega, by omega, Nat.zero_le _, Nat.zero_le _, Nat.zero_le _, trivial⟩ (by show 1 ≤ 900000000; decide)
    unfold prR at hp
    have hir := item_right 5 (by decide) n v
    have hnm := name_fn p n (by omega)
    by_cases hg : nameB (bl n) = true ∧ v.size ≤ 60
    · have hrt : rightF 1 (.mk 5 n v [] (bt' []) []) = true := by rw [hir, hg.1, decide_eq_true hg.2]; rfl
      rw [if_pos hrt, item_text 5 (by decide) n v] at hp
      rw [hg.1] at hnm
      have he := esc60 hg.2
      (refine st_call hp ?_ rfl rfl ?_; (focus ((repeat' (first | exact trivial | exact rfl | exact Or.inl rfl | exact Or.inr ⟨rfl, rfl⟩ | refine And.intro ?_ ?_)); done)); conv => whnf)
      refine ⟨rfl, cmp_false (fun h => h rfl) ?_⟩
      conv => whnf
      (refine st_call hnm ?_ rfl rfl ?_; (focus ((repeat' (first | exact trivial | exact rfl | exact Or.inl rfl | exact Or.inr ⟨rfl, rfl⟩ | refine And.intro ?_ ?_)); done)); conv => whnf)
      refine st_cat (by show 1 + n.size ≤ 9223372036854775807; omega) (z := bt' (40 :: bl n)) (cat_bt [40] (bl n)) ?_
      conv => whnf
      refine st_cat (by rw [sz_bt, List.length_cons, size_bl]; show _ + 2 ≤ 9223372036854775807; omega) (z := bt' (40 :: bl n ++ [62, 61])) (cat_bt _ [62, 61]) ?_
      conv => whnf
      (refine st_call (escFilter_fn (X := envX p) v (by omega)) ?_ rfl rfl ?_; (focus ((repeat' (first | exact trivial | exact rfl | exact Or.inl rfl | exact Or.inr ⟨rfl, rfl⟩ | refine And.intro ?_ ?_)); done)); conv => whnf)
      refine st_cat (by rw [sz_bt, sz_bt, List.length_append, List.length_cons, size_bl]; simp; omega) (z := bt' (40 :: bl n ++ [62, 61] ++ escF (bl v))) (cat_bt _ _) ?_
      conv => whnf
      refine st_cat (by rw [sz_bt, List.length_append, List.length_append, List.length_cons, size_bl]; simp; show _ + 1 ≤ _; omega) (z := bt' (40 :: bl n ++ [62, 61] ++ escF (bl v) ++ [41])) (cat_bt _ [41]) ?_
      conv => whnf
      refine cmp_true (by show bt' _ = bt' _; congr 1) ?_
      conv => whnf
      exact ⟨.inl rfl, rfl⟩
    · have hrt : ¬ rightF 1 (.mk 5 n v [] (bt' []) []) = true := by
        rw [hir, Bool.and_eq_true]
        exact fun h => hg ⟨h.1, of_decide_eq_true h.2⟩
      rw [if_neg hrt] at hp
      (refine st_call hp ?_ rfl rfl ?_; (focus ((repeat' (first | exact trivial | exact rfl | exact Or.inl rfl | exact Or.inr ⟨rfl, rfl⟩ | refine And.intro ?_ ?_)); done)); conv => whnf)
      refine ⟨rfl, cmp_true (by decide) ?_⟩
      conv => whnf
      cases hq : nameB (bl n)
      · rw [hq] at hnm
        (refine st_call hnm ?_ rfl rfl ?_; (focus ((repeat' (first | exact trivial | exact rfl | exact Or.inl rfl | exact Or.inr ⟨rfl, rfl⟩ | refine And.intro ?_ ?_)); done)); conv => whnf)
        exact ⟨.inl rfl, rfl⟩
      · rw [hq] at hnm
        (refine st_call hnm ?_ rfl rfl ?_; (focus ((repeat' (first | exact trivial | exact rfl | exact Or.inl rfl | exact Or.inr ⟨rfl, rfl⟩ | refine And.intro ?_ ?_)); done)); conv => whnf)
        refine ⟨rfl, cmp_true (by have : ¬ v.size ≤ 60 := fun h => hg ⟨hq, h⟩; omega) ?_⟩
        conv => whnf
        exact ⟨.inl rfl, rfl⟩
  conv => whnf
  refine ⟨rfl, cmp_split (fun h6 => ?_) (fun h6 => ?_)⟩
  · subst h6
    conv => whnf
    have hp := print_fn p (.mk 6 n v [] (bt' []) []) ⟨by omega, by omega, Nat.zero_le _, Nat.zero_le _, Nat.zero_le _, trivial⟩ (by show 1 ≤ 900000000; decide)
    unfold prR at hp
    have hir := item_right 6 (by decide) n v
    have hnm := name_fn p n (by omega)
    by_cases hg : nameB (bl n) = true ∧ v.size ≤ 60
    · have hrt : rightF 1 (.mk 6 n v [] (bt' []) []) = true := by rw [hir, hg.1, decide_eq_true hg.2]; rfl
      rw [if_pos hrt, item_text 6 (by decide) n v] at hp
      rw [hg.1] at hnm
      have he := esc60 hg.2
      (refine st_call hp ?_ rfl rfl ?_; (focus ((repeat' (first | exact trivial | exact rfl | exact Or.inl rfl | exact Or.inr ⟨rfl, rfl⟩ | refine And.intro ?_ ?_)); done)); conv => whnf)
      refine ⟨rfl, cmp_false (fun h => h rfl) ?_⟩
      conv => whnf
      (refine st_call hnm ?_ rfl rfl ?_; (focus ((repeat' (first | exact trivial | exact rfl | exact Or.inl rfl | exact Or.inr ⟨rfl, rfl⟩ | refine And.intro ?_ ?_)); done)); conv => whnf)
      refine st_cat (by show 1 + n.size ≤ 9223372036854775807; omega) (z := bt' (40 :: bl n)) (cat_bt [40] (bl n)) ?_
      conv => whnf
      refine st_cat (by rw [sz_bt, List.length_cons, size_bl]; show _ + 2 ≤ 9223372036854775807; omega) (z := bt' (40 :: bl n ++ [60, 61])) (cat_bt _ [60, 61]) ?_
      conv => whnf
      (refine st_call (escFilter_fn (X := envX p) v (by omega)) ?_ rfl rfl ?_; (focus ((repeat' (first | exact trivial | exact rfl | exact Or.inl rfl | exact Or.inr ⟨rfl, rfl⟩ | refine And.intro ?_ ?_)); done)); conv => whnf)
      refine st_cat (by rw [sz_bt, sz_bt, List.length_append, List.length_cons, size_bl]; simp; omega) (z := bt' (40 :: bl n ++ [60, 61] ++ escF (bl v))) (cat_bt _ _) ?_
      conv => whnf
      refine st_cat (by rw [sz_bt, List.length_append, List.length_append, List.length_cons, size_bl]; simp; show _ + 1 ≤ _; omega) (z := bt' (40 :: bl n ++ [60, 61] ++ escF (bl v) ++ [41])) (cat_bt _ [41]) ?_
      conv => whnf
      refine cmp_true (by show bt' _ = bt' _; congr 1) ?_
      conv => whnf
      exact ⟨.inl rfl, rfl⟩
    · have hrt : ¬ rightF 1 (.mk 6 n v [] (bt' []) []) = true := by
        rw [hir, Bool.and_eq_true]
        exact fun h => hg ⟨h.1, of_decide_eq_true h.2⟩
      rw [if_neg hrt] at hp
      (refine st_call hp ?_ rfl rfl ?_; (focus ((repeat' (first | exact trivial | exact rfl | exact Or.inl rfl | exact Or.inr ⟨rfl, rfl⟩ | refine And.intro ?_ ?_)); done)); conv => whnf)
      refine ⟨rfl, cmp_true (by decide) ?_⟩
      conv => whnf
      cases hq : nameB (bl n)
      · rw [hq] at hnm
        (refine st_call hnm ?_ rfl rfl ?_; (focus ((repeat' (first | exact trivial | exact rfl | exact Or.inl rfl | exact Or.inr ⟨rfl, rfl⟩ | refine And.intro ?_ ?_)); done)); conv => whnf)
        exact ⟨.inl rfl, rfl⟩
      · rw [hq] at hnm
        (refine st_call hnm ?_ rfl rfl ?_; (focus ((repeat' (first | exact trivial | exact rfl | exact Or.inl rfl | exact Or.inr ⟨rfl, rfl⟩ | refine And.intro ?_ ?_)); done)); conv => whnf)
        refine ⟨rfl, cmp_true (by have : ¬ v.size ≤ 60 := fun h => hg ⟨hq, h⟩; omega) ?_⟩
        conv => whnf
        exact ⟨.inl rfl, rfl⟩
  conv => whnf
  refine ⟨rfl, cmp_split (fun h8 => ?_) (fun h8 => ?_)⟩
  · subst h8
    conv => whnf
    have hp := print_fn p (.mk 8 n v [] (bt' []) []) ⟨by omega, by omega, Nat.zero_le _, Nat.zero_le _, Nat.zero_le _, trivial⟩ (by show 1 ≤ 900000000; decide)
    unfold prR at hp
    have hir := item_right 8 (by decide) n v
    have hnm := name_fn p n (by omega)
    by_cases hg : nameB (bl n) = true ∧ v.size ≤ 60
    · have hrt : rightF 1 (.mk 8 n v [] (bt' []) []) = true := by rw [hir, hg.1, decide_eq_true hg.2]; rfl
      rw [if_pos hrt, item_text 8 (by decide) n v] at hp
      rw [hg.1] at hnm
      have he := esc60 hg.2
      (refine st_call hp ?_ rfl rfl ?_; (focus ((repeat' (first | exact trivial | exact rfl | exact Or.inl rfl | exact Or.inr ⟨rfl, rfl⟩ | refine And.intro ?_ ?_)); done)); conv => whnf)
      refine ⟨rfl, cmp_false (fun h => h rfl) ?_⟩
      conv => whnf
      (refine st_call hnm ?_ rfl rfl ?_; (focus ((repeat' (first | exact trivial | exact rfl | exact Or.inl rfl | exact Or.inr ⟨rfl, rfl⟩ | refine And.intro ?_ ?_)); done)); conv => whnf)
      refine st_cat (by show 1 + n.size ≤ 9223372036854775807; omega) (z := bt' (40 :: bl n)) (cat_bt [40] (bl n)) ?_
      conv => whnf
      refine st_cat (by rw [sz_bt, List.length_cons, size_bl]; show _ + 2 ≤ 9223372036854775807; omega) (z := bt' (40 :: bl n ++ [126, 61])) (cat_bt _ [126, 61]) ?_
      conv => whnf
      (refine st_call (escFilter_fn (X := envX p) v (by omega)) ?_ rfl rfl ?_; (focus ((repeat' (first | exact trivial | exact rfl | exact Or.inl rfl | exact Or.inr ⟨rfl, rfl⟩ | refine And.intro ?_ ?_)); done)); conv => whnf)
      refine st_cat (by rw [sz_bt, sz_bt, List.length_append, List.length_cons, size_bl]; simp; omega) (z := bt' (40 :: bl n ++ [126, 61] ++ escF (bl v))) (cat_bt _ _) ?_
      conv => whnf
      refine st_cat (by rw [sz_bt, List.length_append, List.length_append, List.length_cons, size_bl]; simp; show _ + 1 ≤ _; omega) (z := bt' (40 :: bl n ++ [126, 61] ++ escF (bl v) ++ [41])) (cat_bt _ [41]) ?_
      conv => whnf
      refine cmp_true (by show bt' _ = bt' _; congr 1) ?_
      conv => whnf
      exact ⟨.inl rfl, rfl⟩
    · have hrt : ¬ rightF 1 (.mk 8 n v [] (bt' []) []) = true := by
        rw [hir, Bool.and_eq_true]
        exact fun h => hg ⟨h.1, of_decide_eq_true h.2⟩
      rw [if_neg hrt] at hp
      (refine st_call hp ?_ rfl rfl ?_; (focus ((repeat' (first | exact trivial | exact rfl | exact Or.inl rfl | exact Or.inr ⟨rfl, rfl⟩ | refine And.intro ?_ ?_)); done)); conv => whnf)
      refine ⟨rfl, cmp_true (by decide) ?_⟩
      conv => whnf
      cases hq : nameB (bl n)
      · rw [hq] at hnm
        (refine st_call hnm ?_ rfl rfl ?_; (focus ((repeat' (first | exact trivial | exact rfl | exact Or.inl rfl | exact Or.inr ⟨rfl, rfl⟩ | refine And.intro ?_ ?_)); done)); conv => whnf)
        exact ⟨.inl rfl, rfl⟩
      · rw [hq] at hnm
        (refine st_call hnm ?_ rfl rfl ?_; (focus ((repeat' (first | exact trivial | exact rfl | exact Or.inl rfl | exact Or.inr ⟨rfl, rfl⟩ | refine And.intro ?_ ?_)); done)); conv => whnf)
        refine ⟨rfl, cmp_true (by have : ¬ v.size ≤ 60 := fun h => hg ⟨hq, h⟩; omega) ?_⟩
        conv => whnf
        exact ⟨.inl rfl, rfl⟩
  conv => whnf
  exact ⟨.inl rfl, rfl⟩
end Go.Proofs.YtiafggoaedifdaaGreatDoor.Fi
