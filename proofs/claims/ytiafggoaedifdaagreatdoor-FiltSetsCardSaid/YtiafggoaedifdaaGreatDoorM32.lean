/- filt, walked: filters read, sets of them. Conditions: texts of at most 10^8 bytes. -/
import Derived.Test.YtiafggoaedifdaaGreatDoorM31
namespace Go.Proofs.YtiafggoaedifdaaGreatDoor.Fi
open Go.RowKit Go.Shelf Go.Lib Fl
set_option linter.unusedVariables false
theorem head_lt {s : ByteArray} {a : Nat} {c : UInt8} (h : ((bl s).drop a).head? = some c) : a < s.size := by
  rw [← size_bl]
  rcases Nat.lt_or_ge a (bl s).length with h1 | h1
  · exact h1
  · rw [List.drop_eq_nil_of_le h1] at h; cases h
theorem drop_head {s : ByteArray} {a : Nat} {c : UInt8} (h : ((bl s).drop a).head? = some c) : (bl s).drop a = c :: (bl s).drop (a + 1) := by
  have h1 := head_lt h
  rw [← size_bl] at h1
  rw [List.drop_eq_getElem_cons h1] at h ⊢
  rw [List.head?_cons] at h
  injection h with h
  rw [h]
theorem rd_sign0 (d : Nat) (r : List UInt8) (h : r.head? = some 38) : rdF (d + 1) (40 :: r) = setK (rdF d) 0 r.tail := by
  cases r with
  | nil => cases h
  | cons c t => simp at h; subst h; rfl
theorem rd_sign1 (d : Nat) (r : List UInt8) (h : r.head? = some 124) : rdF (d + 1) (40 :: r) = setK (rdF d) 1 r.tail := by
  cases r with
  | nil => cases h
  | cons c t => simp at h; subst h; rfl
theorem rd_sign2 (d : Nat) (r : List UInt8) (h : r.head? = some 33) : rdF (d + 1) (40 :: r) = setK (rdF d) 2 r.tail := by
  cases r with
  | nil => cases h
  | cons c t => simp at h; subst h; rfl
theorem rd_bad (d : Nat) (r : List UInt8) (h : r.head? ≠ some 40) : rdF d r = none := by
  cases d with
  | zero => rfl
  | succ d =>
    unfold rdF
    split
    · simp at h
    · rfl
theorem rd_none (d : Nat) (r : List UInt8) (h0 : r.head? ≠ some 38) (h1 : r.head? ≠ some 124) (h2 : r.head? ≠ some 33) : rdF (d + 1) (40 :: r) = match cutL 41 r with
    | some (s, t) => (itemF s).map fun f => (f, t)
    | none => none := by
  cases r with
  | nil => rfl
  | cons c t => exact rdF_item d c t ⟨fun e => h0 (by rw [e]; rfl), fun e => h1 (by rw [e]; rfl), fun e => h2 (by rw [e]; rfl)⟩
/-- what is read, and where the reader is then -/
def OutOk (o : Option (Flt × List UInt8)) (s : ByteArray) (r : T) (css' : List (List T)) : Prop := match o with
  | some (f, t) => r = .tup [.v (.agg (cG f)), .v .nili] ∧ css' = [rdC s (s.size - t.length)]
  | none => ∃ (f : Flt) (i : Int) (a' : Nat), a' ≤ s.size ∧ r = .tup [.v (.agg (cG f)), .v (fErr i)] ∧ css' = [rdC s a']
/-- where a set is wrong -/
def failL (rd : List UInt8 → Option (Flt × List UInt8)) : Nat → List UInt8 → List UInt8
  | 0, r => r
  | n + 1, r => match rd r with
    | some (_, r') => failL rd n r'
    | none => r
theorem fail_fuel {rd : List UInt8 → Option (Flt × List UInt8)} (h : Eats rd) : ∀ (n m : Nat) (r : List UInt8), r.length < n → r.length < m → failL rd n r = failL rd m r
  | 0, _, _, hn, _ => by omega
  | _, 0, _, _, hm => by omega
  | n + 1, m + 1, r, hn, hm => by
    unfold failL
    cases hr : rd r with
    | none => rfl
    | some q =>
      obtain ⟨x, r'⟩ := q
      obtain ⟨p, hp0, hp⟩ := h _ _ _ hr
      have h1 := congrArg List.length hp
      rw [List.length_append] at h1
      have h0 : p.length ≠ 0 := fun e => hp0 (List.eq_nil_of_length_eq_zero e)
      dsimp only
      exact fail_fuel h n m r' (by omega) (by omega)
def failW (rd : List UInt8 → Option (Flt × List UInt8)) (r : List UInt8) : List UInt8 := failL rd (r.length + 1) r
theorem fail_in {rd : List UInt8 → Option (Flt × List UInt8)} (h : Eats rd) {r r' : List UInt8} {x : Flt} (hr : rd r = some (x, r')) : failW rd r = failW rd r' := by
  obtain ⟨p, hp0, hp⟩ := h _ _ _ hr
  have h1 := congrArg List.length hp
  rw [List.length_append] at h1
  have h0 : p.length ≠ 0 := fun e => hp0 (List.eq_nil_of_length_eq_zero e)
  unfold failW
  rw [failL, hr]
  exact fail_fuel h _ _ r' (by omega) (by omega)
theorem fail_here {rd : List UInt8 → Option (Flt × List UInt8)} {r : List UInt8} (hr : rd r = none) : failW rd r = r := by
  unfold failW
  rw [failL, hr]
theorem fail_suf {rd : List UInt8 → Option (Flt × List UInt8)} (h : Eats rd) : ∀ (n : Nat) (r : List UInt8), ∃ p, r = p ++ failL rd n r
  | 0, r => ⟨[], rfl⟩
  | n + 1, r => by
    rw [failL]
    cases hr : rd r with
    | none => exact ⟨[], rfl⟩
    | some q =>
      obtain ⟨x, r'⟩ := q
      obtain ⟨p, _, hp⟩ := h _ _ _ hr
      obtain ⟨p', hp'⟩ := fail_suf h n r'
      exact ⟨p ++ p', by rw [List.append_assoc, ← hp', ← hp]⟩
theorem fail_none {rd : List UInt8 → Option (Flt × List UInt8)} (h : Eats rd) : ∀ (n : Nat) (r : List UInt8), r.length < n → rd (failL rd n r) = none
  | 0, r, hn => by omega
  | n + 1, r, hn => by
    rw [failL]
    cases hr : rd r with
    | none => exact hr
    | some q =>
      obtain ⟨x, r'⟩ := q
      obtain ⟨p, hp0, hp⟩ := h _ _ _ hr
      have h1 := congrArg List.length hp
      rw [List.length_append] at h1
      have h0 : p.length ≠ 0 := fun e => hp0 (List.eq_nil_of_length_eq_zero e)
      exact fail_none h n r' (by omega)
theorem suf_drop {s : ByteArray} {a : Nat} {p t : List UInt8} (ha : a ≤ s.size) (h : (bl s).drop a = p ++ t) : (bl s).drop (s.size - t.length) = t ∧ s.size - t.length = a + p.length ∧ s.size - t.length ≤ s.size := by
  have h1 := congrArg List.length h
  rw [List.length_drop, size_bl, List.length_append] at h1
  have h2 : s.size - t.length = a + p.length := by omega
  refine ⟨?_, h2, by omega⟩
  rw [h2, ← List.drop_drop, h, List.drop_left]
variable (p : Nat → Addr)
set_option maxHeartbeats 4000000 in
theorem set_fn (s : ByteArray) (hs : s.size ≤ 100000000) (d : Nat) (hd : d ≤ 1000) (hr : ∀ a, a ≤ s.size → ∃ (r : T) (css' : List (List T)), OutOk (rdF d ((bl s).drop a)) s r css' ∧ FnM Tryz.prog (envX p) 66 [rdC s a] [.ptr 0 0, .v (.int .i64 (d : Nat))] r css') (k : Int) (a : Nat) (ha : a ≤ s.size) : ∃ (r : T) (css' : List (List T)), OutOk (setK (rdF d) k ((bl s).drop a)) s r css' ∧ FnM Tryz.prog (envX p) 95 [rdC s a] [.ptr 0 0, .v (.int .i64 k), .v (.int .i64 ((d + 1 : Nat) : Int))] r css' := by
  have hE := rd_eats d
  cases hw : loopW (rdF d) ((bl s).drop a) with
  | some q =>
    obtain ⟨l, t0⟩ := q
    obtain ⟨pp0, hpp0⟩ := loop_suf hE _ _ _ _ hw
    obtain ⟨e1, e2, e3⟩ := suf_drop ha hpp0
    by_cases h41 : t0.head? = some 41
    · obtain ⟨t, rfl⟩ : ∃ t, t0 = 41 :: t := by
        cases t0 with
        | nil => cases h41
        | cons c t => simp at h41; exact ⟨t, by rw [h41]⟩
      have hset : setK (rdF d) k ((bl s).drop a) = some (.mk k (bt' []) (bt' []) [] (bt' []) l, t) := by
        unfold setK
        unfold loopW at hw
        rw [hw]
        try rfl
      rw [hset]
      refine ⟨_, _, ⟨rfl, rfl⟩, ?_⟩
      refine fnM_defer (d := 10) (fc := 123) tabOk mixed Tryz.f95 Tryz.func95 (by kernel_rfl) rfl rfl rfl rfl rfl rfl rfl rfl rfl (by decide) (by decide) (by kernel_rfl) rfl rfl rfl rfl ?_
      conv => whnf
      refine ⟨List Flt × Nat, fun x => ⟨35, [(1, .v (.int .i64 k)), (2, .v (.int .i64 ((d + 1 : Nat) : Int))), (3, .ptr 3 0), (6, .ptr 6 0), (7, .ptr 7 0), (10, .fn 123 [.ptr 7 0, .ptr 3 0])], [(35, rdC s x.2), (3, [.ptr 35 0]), (6, [.v (.int .i64 k), .v (.str (bt' [])), .v (.str (bt' [])), .v .nils, .v (.str (bt' [])), .own 6 25 (x.1.map cF)]), (7, [.v .nili])], [(6, some 25)]⟩, fun x => x.1.length ≤ x.2 ∧ x.2 ≤ s.size ∧ ∃ l2, loopW (rdF d) ((bl s).drop x.2) = some (l2, 41 :: t) ∧ l = x.1 ++ l2, fun x => s.size - x.2, ⟨([], a), [(6, none)], ⟨Nat.zero_le _, ha, l, hw, rfl⟩, ?_⟩, fun x ⟨hxl, hxa, hx⟩ => ?_⟩
      · (focus ((repeat' (first | exact trivial | exact rfl | exact Or.inl rfl | exact Or.inr ⟨rfl, rfl⟩ | refine And.intro ?_ ?_)); done))
      obtain ⟨l1, a1⟩ := x
      dsimp only at hxl hxa hx
      have his := is_fn (X := envX p) s a1 hxa { data := #[40] }
      rw [at_one] at his
      conv => whnf
      obtain ⟨l2, hw2, hl⟩ := hx
      by_cases h40 : ((bl s).drop a1).head? = some 40
      · rw [decide_eq_true h40] at his
        obtain ⟨r0, css0, ho0, hf0⟩ := hr a1 hxa
        cases hrd : rdF d ((bl s).drop a1) with
        | none => rw [loop_bad _ h40 hrd] at hw2; cases hw2
        | some q =>
        obtain ⟨y, r'⟩ := q
        rw [loop_in hE _ _ _ h40 hrd] at hw2
        obtain ⟨⟨l3, t3⟩, hw3, he⟩ := Option.map_eq_some_iff.1 hw2
        cases he
        rw [hrd] at ho0
        obtain ⟨rfl, rfl⟩ := ho0
        obtain ⟨pp, hp0, hpp⟩ := rd_eats d _ _ _ hrd
        obtain ⟨g1, g2, g3⟩ := suf_drop hxa hpp
        have hpl : pp.length ≠ 0 := fun e => hp0 (List.eq_nil_of_length_eq_zero e)
        (refine st_callM [35] (his) rfl ?_ ?_ rfl ?_; (focus ((repeat' (first | exact trivial | exact rfl | exact Or.inl rfl | exact Or.inr ⟨rfl, rfl⟩ | refine And.intro ?_ ?_)); done)); (focus ((repeat' (first | exact trivial | exact rfl | exact Or.inl rfl | exact Or.inr ⟨rfl, rfl⟩ | refine And.intro ?_ ?_)); done)); conv => whnf)
        refine st_minus (d + 1) 1 (by omega) (by omega) ?_
        conv => whnf
        (refine st_callM [35] (hf0) rfl ?_ ?_ rfl ?_; (focus ((repeat' (first | exact trivial | exact rfl | exact Or.inl rfl | exact Or.inr ⟨rfl, rfl⟩ | refine And.intro ?_ ?_)); done)); (focus ((repeat' (first | exact trivial | exact rfl | exact Or.inl rfl | exact Or.inr ⟨rfl, rfl⟩ | refine And.intro ?_ ?_)); done)); conv => whnf)
        refine st_app (by rw [List.length_map]; simp; omega) (by intro c hc; simp at hc; rw [hc]; rfl) (zs := (l1 ++ [y]).map cF) (by rw [List.map_append]; show _ ++ [cG y] = _ ++ [cF y]; rw [cG_eq]) ?_
        conv => whnf
        refine ⟨(l1 ++ [y], s.size - r'.length), [(6, some 32)], ⟨by simp; omega, g3, l3, by dsimp only; rw [g1]; exact hw3, by simp [hl]⟩, by dsimp only; omega, ?_⟩
        (focus ((repeat' (first | exact trivial | exact rfl | exact Or.inl rfl | exact Or.inr ⟨rfl, rfl⟩ | refine And.intro ?_ ?_)); done))
      · rw [decide_eq_false h40] at his
        rw [loop_out _ _ h40] at hw2
        obtain ⟨rfl, ht⟩ : l2 = [] ∧ (bl s).drop a1 = 41 :: t := by injection hw2 with hw2; injection hw2 with h1 h2; exact ⟨h1.symm, h2⟩
        rw [List.append_nil] at hl
        subst hl
        have hend := end_ok (X := envX p) s hs a1 hxa
        rw [ht, if_pos (show (41 :: t).head? = some 41 from rfl)] at hend
        have hsz : s.size - t.length = a1 + 1 := by
          have h1 := congrArg List.length ht
          rw [List.length_drop, size_bl, List.length_cons] at h1
          omega
        rw [hsz]
        (refine st_callM [35] (his) rfl ?_ ?_ rfl ?_; (focus ((repeat' (first | exact trivial | exact rfl | exact Or.inl rfl | exact Or.inr ⟨rfl, rfl⟩ | refine And.intro ?_ ?_)); done)); (focus ((repeat' (first | exact trivial | exact rfl | exact Or.inl rfl | exact Or.inr ⟨rfl, rfl⟩ | refine And.intro ?_ ?_)); done)); conv => whnf)
        refine ⟨rfl, [7, 3, 35], _, _, _, hend, rfl, ?_, ?_, ?_⟩
        · (focus ((repeat' (first | exact trivial | exact rfl | exact Or.inl rfl | exact Or.inr ⟨rfl, rfl⟩ | refine And.intro ?_ ?_)); done))
        · (focus ((repeat' (first | exact trivial | exact rfl | exact Or.inl rfl | exact Or.inr ⟨rfl, rfl⟩ | refine And.intro ?_ ?_)); done))
        conv => whnf
        (focus ((repeat' (first | exact trivial | exact rfl | exact Or.inl rfl | exact Or.inr ⟨rfl, rfl⟩ | refine And.intro ?_ ?_)); done))
    · have hset : setK (rdF d) k ((bl s).drop a) = none := by
        unfold setK
        unfold loopW at hw
        rw [hw]
        split
        · rename_i e; cases e; exact absurd rfl h41
        · rfl
      rw [hset]
      refine ⟨.tup [.v (.agg (cG (.mk k (bt' []) (bt' []) [] (bt' []) l))), .v (fErr (s.size - t0.length : Nat))], [rdC s (s.size - t0.length)], ⟨_, _, _, e3, rfl, rfl⟩, ?_⟩
      refine fnM_defer (d := 10) (fc := 123) tabOk mixed Tryz.f95 Tryz.func95 (by kernel_rfl) rfl rfl rfl rfl rfl rfl rfl rfl rfl (by decide) (by decide) (by kernel_rfl) rfl rfl rfl rfl ?_
      conv => whnf
      refine ⟨List Flt × Nat, fun x => ⟨35, [(1, .v (.int .i64 k)), (2, .v (.int .i64 ((d + 1 : Nat) : Int))), (3, .ptr 3 0), (6, .ptr 6 0), (7, .ptr 7 0), (10, .fn 123 [.ptr 7 0, .ptr 3 0])], [(35, rdC s x.2), (3, [.ptr 35 0]), (6, [.v (.int .i64 k), .v (.str (bt' [])), .v (.str (bt' [])), .v .nils, .v (.str (bt' [])), .own 6 25 (x.1.map cF)]), (7, [.v .nili])], [(6, some 25)]⟩, fun x => x.1.length ≤ x.2 ∧ x.2 ≤ s.size ∧ ∃ l2, loopW (rdF d) ((bl s).drop x.2) = some (l2, t0) ∧ l = x.1 ++ l2, fun x => s.size - x.2, ⟨([], a), [(6, none)], ⟨Nat.zero_le _, ha, l, hw, rfl⟩, ?_⟩, fun x ⟨hxl, hxa, hx⟩ => ?_⟩
      · (focus ((repeat' (first | exact trivial | exact rfl | exact Or.inl rfl | exact Or.inr ⟨rfl, rfl⟩ | refine And.intro ?_ ?_)); done))
      obtain ⟨l1, a1⟩ := x
      dsimp only at hxl hxa hx
      have his := is_fn (X := envX p) s a1 hxa { data := #[40] }
      rw [at_one] at his
      conv => whnf
      obtain ⟨l2, hw2, hl⟩ := hx
      by_cases h40 : ((bl s).drop a1).head? = some 40
      · rw [decide_eq_true h40] at his
        obtain ⟨r0, css0, ho0, hf0⟩ := hr a1 hxa
        cases hrd : rdF d ((bl s).drop a1) with
        | none => rw [loop_bad _ h40 hrd] at hw2; cases hw2
        | some q =>
        obtain ⟨y, r'⟩ := q
        rw [loop_in hE _ _ _ h40 hrd] at hw2
        obtain ⟨⟨l3, t3⟩, hw3, he⟩ := Option.map_eq_some_iff.1 hw2
        cases he
        rw [hrd] at ho0
        obtain ⟨rfl, rfl⟩ := ho0
        obtain ⟨pp, hp0, hpp⟩ := rd_eats d _ _ _ hrd
        obtain ⟨g1, g2, g3⟩ := suf_drop hxa hpp
        have hpl : pp.length ≠ 0 := fun e => hp0 (List.eq_nil_of_length_eq_zero e)
        (refine st_callM [35] (his) rfl ?_ ?_ rfl ?_; (focus ((repeat' (first | exact trivial | exact rfl | exact Or.inl rfl | exact Or.inr ⟨rfl, rfl⟩ | refine And.intro ?_ ?_)); done)); (focus ((repeat' (first | exact trivial | exact rfl | exact Or.inl rfl | exact Or.inr ⟨rfl, rfl⟩ | refine And.intro ?_ ?_)); done)); conv => whnf)
        refine st_minus (d + 1) 1 (by omega) (by omega) ?_
        conv => whnf
        (refine st_callM [35] (hf0) rfl ?_ ?_ rfl ?_; (focus ((repeat' (first | exact trivial | exact rfl | exact Or.inl rfl | exact Or.inr ⟨rfl, rfl⟩ | refine And.intro ?_ ?_)); done)); (focus ((repeat' (first | exact trivial | exact rfl | exact Or.inl rfl | exact Or.inr ⟨rfl, rfl⟩ | refine And.intro ?_ ?_)); done)); conv => whnf)
        refine st_app (by rw [List.length_map]; simp; omega) (by intro c hc; simp at hc; rw [hc]; rfl) (zs := (l1 ++ [y]).map cF) (by rw [List.map_append]; show _ ++ [cG y] = _ ++ [cF y]; rw [cG_eq]) ?_
        conv => whnf
        refine ⟨(l1 ++ [y], s.size - r'.length), [(6, some 32)], ⟨by simp; omega, g3, l3, by dsimp only; rw [g1]; exact hw3, by simp [hl]⟩, by dsimp only; omega, ?_⟩
        (focus ((repeat' (first | exact trivial | exact rfl | exact Or.inl rfl | exact Or.inr ⟨rfl, rfl⟩ | refine And.intro ?_ ?_)); done))
      · rw [decide_eq_false h40] at his
        rw [loop_out _ _ h40] at hw2
        obtain ⟨rfl, ht⟩ : l2 = [] ∧ (bl s).drop a1 = t0 := by injection hw2 with hw2; injection hw2 with h1 h2; exact ⟨h1.symm, h2⟩
        rw [List.append_nil] at hl
        subst hl
        have hend := end_ok (X := envX p) s hs a1 hxa
        rw [ht, if_neg h41] at hend
        have hsz : s.size - t0.length = a1 := by
          have h1 := congrArg List.length ht
          rw [List.length_drop, size_bl] at h1
          omega
        rw [hsz]
        (refine st_callM [35] (his) rfl ?_ ?_ rfl ?_; (focus ((repeat' (first | exact trivial | exact rfl | exact Or.inl rfl | exact Or.inr ⟨rfl, rfl⟩ | refine And.intro ?_ ?_)); done)); (focus ((repeat' (first | exact trivial | exact rfl | exact Or.inl rfl | exact Or.inr ⟨rfl, rfl⟩ | refine And.intro ?_ ?_)); done)); conv => whnf)
        refine ⟨rfl, [7, 3, 35], _, _, _, hend, rfl, ?_, ?_, ?_⟩
        · (focus ((repeat' (first | exact trivial | exact rfl | exact Or.inl rfl | exact Or.inr ⟨rfl, rfl⟩ | refine And.intro ?_ ?_)); done))
        · (focus ((repeat' (first | exact trivial | exact rfl | exact Or.inl rfl | exact Or.inr ⟨rfl, rfl⟩ | refine And.intro ?_ ?_)); done))
        conv => whnf
        (focus ((repeat' (first | exact trivial | exact rfl | exact Or.inl rfl | exact Or.inr ⟨rfl, rfl⟩ | refine And.intro ?_ ?_)); done))
  | none =>
    have hset : setK (rdF d) k ((bl s).drop a) = none := by
      unfold setK
      unfold loopW at hw
      rw [hw]
      try rfl
    rw [hset]
    obtain ⟨pp0, hpp0⟩ := fail_suf hE (((bl s).drop a).length + 1) ((bl s).drop a)
    obtain ⟨e1, e2, e3⟩ := suf_drop ha hpp0
    have hfW : failL (rdF d) (((bl s).drop a).length + 1) ((bl s).drop a) = failW (rdF d) ((bl s).drop a) := rfl
    rw [hfW] at e1 e2 e3
    obtain ⟨rf, cssf, hof, hff⟩ := hr _ e3
    rw [e1] at hof
    have hrf : rdF d (failW (rdF d) ((bl s).drop a)) = none := fail_none hE _ _ (Nat.lt_succ_self _)
    rw [hrf] at hof
    obtain ⟨ff, fi, fa, hfa, rfl, rfl⟩ := hof
    refine ⟨.tup [.v (.agg (cG f0)), .v (fErr fi)], [rdC s fa], ⟨_, _, _, hfa, rfl, rfl⟩, ?_⟩
    refine fnM_defer (d := 10) (fc := 123) tabOk mixed Tryz.f95 Tryz.func95 (by kernel_rfl) rfl rfl rfl rfl rfl rfl rfl rfl rfl (by decide) (by decide) (by kernel_rfl) rfl rfl rfl rfl ?_
    conv => whnf
    refine ⟨List Flt × Nat, fun x => ⟨35, [(1, .v (.int .i64 k)), (2, .v (.int .i64 ((d + 1 : Nat) : Int))), (3, .ptr 3 0), (6, .ptr 6 0), (7, .ptr 7 0), (10, .fn 123 [.ptr 7 0, .ptr 3 0])], [(35, rdC s x.2), (3, [.ptr 35 0]), (6, [.v (.int .i64 k), .v (.str (bt' [])), .v (.str (bt' [])), .v .nils, .v (.str (bt' [])), .own 6 25 (x.1.map cF)]), (7, [.v .nili])], [(6, some 25)]⟩, fun x => x.1.length ≤ x.2 ∧ x.2 ≤ s.size ∧ loopW (rdF d) ((bl s).drop x.2) = none ∧ failW (rdF d) ((bl s).drop x.2) = failW (rdF d) ((bl s).drop a), fun x => s.size - x.2, ⟨([], a), [(6, none)], ⟨Nat.zero_le _, ha, hw, rfl⟩, ?_⟩, fun x ⟨hxl, hxa, hx⟩ => ?_⟩
    · (focus ((repeat' (first | exact trivial | exact rfl | exact Or.inl rfl | exact Or.inr ⟨rfl, rfl⟩ | refine And.intro ?_ ?_)); done))
    obtain ⟨l1, a1⟩ := x
    dsimp only at hxl hxa hx
    have his := is_fn (X := envX p) s a1 hxa { data := #[40] }
    rw [at_one] at his
    conv => whnf
    obtain ⟨hw2, hfl⟩ := hx
    by_cases h40 : ((bl s).drop a1).head? = some 40
    rotate_left
    · rw [loop_out _ _ h40] at hw2; cases hw2
    rw [decide_eq_true h40] at his
    cases hrd : rdF d ((bl s).drop a1) with
    | some q =>
      obtain ⟨y, r'⟩ := q
      obtain ⟨r0, css0, ho0, hf0⟩ := hr a1 hxa
      rw [loop_in hE _ _ _ h40 hrd] at hw2
      rw [fail_in hE hrd] at hfl
      rw [hrd] at ho0
      obtain ⟨rfl, rfl⟩ := ho0
      obtain ⟨pp, hp0, hpp⟩ := rd_eats d _ _ _ hrd
      obtain ⟨g1, g2, g3⟩ := suf_drop hxa hpp
      have hpl : pp.length ≠ 0 := fun e => hp0 (List.eq_nil_of_length_eq_zero e)
      (refine st_callM [35] (his) rfl ?_ ?_ rfl ?_; (focus ((repeat' (first | exact trivial | exact rfl | exact Or.inl rfl | exact Or.inr ⟨rfl, rfl⟩ | refine And.intro ?_ ?_)); done)); (focus ((repeat' (first | exact trivial | exact rfl | exact Or.inl rfl | exact Or.inr ⟨rfl, rfl⟩ | refine And.intro ?_ ?_)); done)); conv => whnf)
      refine st_minus (d + 1) 1 (by omega) (by omega) ?_
      conv => whnf
      (refine st_callM [35] (hf0) rfl ?_ ?_ rfl ?_; (focus ((repeat' (first | exact trivial | exact rfl | exact Or.inl rfl | exact Or.inr ⟨rfl, rfl⟩ | refine And.intro ?_ ?_)); done)); (focus ((repeat' (first | exact trivial | exact rfl | exact Or.inl rfl | exact Or.inr ⟨rfl, rfl⟩ | refine And.intro ?_ ?_)); done)); conv => whnf)
      refine st_app (by rw [List.length_map]; simp; omega) (by intro c hc; simp at hc; rw [hc]; rfl) (zs := (l1 ++ [y]).map cF) (by rw [List.map_append]; show _ ++ [cG y] = _ ++ [cF y]; rw [cG_eq]) ?_
      conv => whnf
      refine ⟨(l1 ++ [y], s.size - r'.length), [(6, some 32)], ⟨by simp; omega, g3, by dsimp only; rw [g1]; exact Option.map_eq_none_iff.1 hw2, by dsimp only; rw [g1]; exact hfl⟩, by dsimp only; omega, ?_⟩
      (focus ((repeat' (first | exact trivial | exact rfl | exact Or.inl rfl | exact Or.inr ⟨rfl, rfl⟩ | refine And.intro ?_ ?_)); done))
    | none =>
      rw [fail_here hrd] at hfl
      rw [← hfl, List.length_drop, size_bl, show s.size - (s.size - a1) = a1 by omega] at hff
      (refine st_callM [35] (his) rfl ?_ ?_ rfl ?_; (focus ((repeat' (first | exact trivial | exact rfl | exact Or.inl rfl | exact Or.inr ⟨rfl, rfl⟩ | refine And.intro ?_ ?_)); done)); (focus ((repeat' (first | exact trivial | exact rfl | exact Or.inl rfl | exact Or.inr ⟨rfl, rfl⟩ | refine And.intro ?_ ?_)); done)); conv => whnf)
      refine st_minus (d + 1) 1 (by omega) (by omega) ?_
      conv => whnf
      (refine st_callM [35] (hff) rfl ?_ ?_ rfl ?_; (focus ((repeat' (first | exact trivial | exact rfl | exact Or.inl rfl | exact Or.inr ⟨rfl, rfl⟩ | refine And.intro ?_ ?_)); done)); (focus ((repeat' (first | exact trivial | exact rfl | exact Or.inl rfl | exact Or.inr ⟨rfl, rfl⟩ | refine And.intro ?_ ?_)); done)); conv => whnf)
      refine ⟨rfl, [7, 3, 35], _, _, _, end_err (X := envX p) s fa fi, rfl, ?_, ?_, ?_⟩
      · (focus ((repeat' (first | exact trivial | exact rfl | exact Or.inl rfl | exact Or.inr ⟨rfl, rfl⟩ | refine And.intro ?_ ?_)); done))
      · (focus ((repeat' (first | exact trivial | exact rfl | exact Or.inl rfl | exact Or.inr ⟨rfl, rfl⟩ | refine And.intro ?_ ?_)); done))
      conv => whnf
      (focus ((repeat' (first | exact trivial | exact rfl | exact Or.inl rfl | exact Or.inr ⟨rfl, rfl⟩ | refine And.intro ?_ ?_)); done))
set_option maxHeartbeats 4000000 in
theorem read_fn (s : ByteArray) (hs : s.size ≤ 100000000) : ∀ (d a : Nat), d ≤ 1000 → a ≤ s.size → ∃ (r : T) (css' : List (List T)), OutOk (rdF d ((bl s).drop a)) s r css' ∧ FnM Tryz.prog (envX p) 66 [rdC s a] [.ptr 0 0, .v (.int .i64 (d : Nat))] r css'
  | 0, a, hd, ha => by
    refine ⟨.tup [.v (.agg (cG f0)), .v (fErr (a : Nat))], [rdC s a], ⟨f0, (a : Nat), a, ha, rfl, rfl⟩, ?_⟩
    refine fnM_prog tabOk mixed Tryz.f66 Tryz.func66 (by kernel_rfl) (by kernel_rfl) rfl rfl rfl rfl ?_
    conv => whnf
    refine ⟨rfl, cmp_true (by decide) ?_⟩
    conv => whnf
    refine ⟨some [0, 1, 2, 3, 4, 1005, 6, 7, 8, 9], by kernel_rfl, ?_⟩; conv => whnf
    (focus ((repeat' (first | exact trivial | exact rfl | exact Or.inl rfl | exact Or.inr ⟨rfl, rfl⟩ | refine And.intro ?_ ?_)); done))
  | d + 1, a, hd, ha => by
    have ht := takes_fn (X := envX p) s hs a ha { data := #[40] }
    rw [at_one] at ht
    by_cases h40 : ((bl s).drop a).head? = some 40
    rotate_left
    · rw [decide_eq_false h40, if_neg (by decide)] at ht
      refine ⟨.tup [.v (.agg (cG f0)), .v (fErr (a : Nat))], [rdC s a], ?_, ?_⟩
      · rw [rd_bad _ _ h40]
        exact ⟨f0, (a : Nat), a, ha, rfl, rfl⟩
      refine fnM_prog tabOk mixed Tryz.f66 Tryz.func66 (by kernel_rfl) (by kernel_rfl) rfl rfl rfl rfl ?_
      conv => whnf
      refine ⟨rfl, cmp_false (by omega) ?_⟩
      conv => whnf
      (refine st_callM [90] (ht) rfl ?_ ?_ rfl ?_; (focus ((repeat' (first | exact trivial | exact rfl | exact Or.inl rfl | exact Or.inr ⟨rfl, rfl⟩ | refine And.intro ?_ ?_)); done)); (focus ((repeat' (first | exact trivial | exact rfl | exact Or.inl rfl | exact Or.inr ⟨rfl, rfl⟩ | refine And.intro ?_ ?_)); done)); conv => whnf)
      refine ⟨some [0, 1, 2, 3, 4, 1005, 6, 7, 8, 9], by kernel_rfl, ?_⟩; conv => whnf
      (focus ((repeat' (first | exact trivial | exact rfl | exact Or.inl rfl | exact Or.inr ⟨rfl, rfl⟩ | refine And.intro ?_ ?_)); done))
    rw [decide_eq_true h40, if_pos rfl] at ht
    have hda := drop_head h40
    have ha1 : a + 1 ≤ s.size := head_lt h40
    by_cases hj : ((bl s).drop (a + 1)).head? = some 38
    · -- sign 0
      obtain ⟨r, css', ho, hset⟩ := set_fn p s hs d (by omega) (fun a ha => read_fn s hs d a (by omega) ha) 0 (a + 1 + 1) (by have := head_lt hj; omega)
      refine ⟨r, css', ?_, ?_⟩
      · rw [hda, rd_sign0 d _ hj, List.tail_drop] ; exact ho
      have hfin : ∃ f e a', r = .tup [.v (.agg (cG f)), .v e] ∧ css' = [rdC s a'] ∧ (e = .nili ∨ ∃ i, e = fErr i) := by
        unfold OutOk at ho
        split at ho
        · exact ⟨_, _, _, ho.1, ho.2, .inl rfl⟩
        · obtain ⟨g, i, a', _, h1, h2⟩ := ho
          exact ⟨_, _, _, h1, h2, .inr ⟨_, rfl⟩⟩
      obtain ⟨fx, ex, ax, rfl, rfl, hex⟩ := hfin
      rcases hex with rfl | ⟨ie, rfl⟩
      all_goals
        refine fnM_prog tabOk mixed Tryz.f66 Tryz.func66 (by kernel_rfl) (by kernel_rfl) rfl rfl rfl rfl ?_
        conv => whnf
        refine ⟨rfl, cmp_false (by omega) ?_⟩
        conv => whnf
        (refine st_callM [90] (ht) rfl ?_ ?_ rfl ?_; (focus ((repeat' (first | exact trivial | exact rfl | exact Or.inl rfl | exact Or.inr ⟨rfl, rfl⟩ | refine And.intro ?_ ?_)); done)); (focus ((repeat' (first | exact trivial | exact rfl | exact Or.inl rfl | exact Or.inr ⟨rfl, rfl⟩ | refine And.intro ?_ ?_)); done)); conv => whnf)
        refine ⟨Nat, fun i => ⟨90, [(0, .ptr 90 0), (1, .v (.int .i64 ((d + 1 : Nat) : Int))), (4, .ptr 4 0), (28, .v (.sl [[.int .i64 0], [.int .i64 1], [.int .i64 2]])), (29, .v (.int .i64 3)), (30, .v (.int .i64 (i : Nat)))], [(90, rdC s (a + 1)), (4, [.v (.int .i64 0), .v (.str (bt' [])), .v (.str (bt' [])), .v .nils, .v (.str (bt' [])), .v .nils])], []⟩, fun i => i ≤ 0, fun i => 3 - i, ⟨0, [], by decide, ?_⟩, fun i hi => ?_⟩
        · (focus ((repeat' (first | exact trivial | exact rfl | exact Or.inl rfl | exact Or.inr ⟨rfl, rfl⟩ | refine And.intro ?_ ?_)); done))
        · match i, hi with
          | 0, hi =>
            have hs0 := takes_fn (X := envX p) s hs (a + 1) ha1 { data := #[38] }
            rw [at_one, decide_eq_true hj, if_pos rfl] at hs0
            conv => whnf
            refine ⟨rfl, cmp_true (by decide) ?_⟩
            conv => whnf
            refine ⟨[.int .i64 0], by decide, rfl, rfl, ?_⟩
            conv => whnf
            refine ⟨some [0, 1, 2, 4, 3, 5, 6], by kernel_rfl, ?_⟩; conv => whnf
            (refine st_call (signs_fn (X := envX p)) ?_ rfl rfl ?_; (focus ((repeat' (first | exact trivial | exact rfl | exact Or.inl rfl | exact Or.inr ⟨rfl, rfl⟩ | refine And.intro ?_ ?_)); done)); conv => whnf)
            refine ⟨_, rfl, ?_⟩
            conv => whnf
            (refine st_callM [90] (hs0) rfl ?_ ?_ rfl ?_; (focus ((repeat' (first | exact trivial | exact rfl | exact Or.inl rfl | exact Or.inr ⟨rfl, rfl⟩ | refine And.intro ?_ ?_)); done)); (focus ((repeat' (first | exact trivial | exact rfl | exact Or.inl rfl | exact Or.inr ⟨rfl, rfl⟩ | refine And.intro ?_ ?_)); done)); conv => whnf)
            (refine st_callM [90] (hset) rfl ?_ ?_ rfl ?_; (focus ((repeat' (first | exact trivial | exact rfl | exact Or.inl rfl | exact Or.inr ⟨rfl, rfl⟩ | refine And.intro ?_ ?_)); done)); (focus ((repeat' (first | exact trivial | exact rfl | exact Or.inl rfl | exact Or.inr ⟨rfl, rfl⟩ | refine And.intro ?_ ?_)); done)); conv => whnf)
            (focus ((repeat' (first | exact trivial | exact rfl | exact Or.inl rfl | exact Or.inr ⟨rfl, rfl⟩ | refine And.intro ?_ ?_)); done))
          | n + 1, hi => omega
    by_cases hj1 : ((bl s).drop (a + 1)).head? = some 124
    · -- sign 1
      obtain ⟨r, css', ho, hset⟩ := set_fn p s hs d (by omega) (fun a ha => read_fn s hs d a (by omega) ha) 1 (a + 1 + 1) (by have := head_lt hj1; omega)
      refine ⟨r, css', ?_, ?_⟩
      · rw [hda, rd_sign1 d _ hj1, List.tail_drop] ; exact ho
      have hfin : ∃ f e a', r = .tup [.v (.agg (cG f)), .v e] ∧ css' = [rdC s a'] ∧ (e = .nili ∨ ∃ i, e = fErr i) := by
        unfold OutOk at ho
        split at ho
        · exact ⟨_, _, _, ho.1, ho.2, .inl rfl⟩
        · obtain ⟨g, i, a', _, h1, h2⟩ := ho
          exact ⟨_, _, _, h1, h2, .inr ⟨_, rfl⟩⟩
      obtain ⟨fx, ex, ax, rfl, rfl, hex⟩ := hfin
      rcases hex with rfl | ⟨ie, rfl⟩
      all_goals
        refine fnM_prog tabOk mixed Tryz.f66 Tryz.func66 (by kernel_rfl) (by kernel_rfl) rfl rfl rfl rfl ?_
        conv => whnf
        refine ⟨rfl, cmp_false (by omega) ?_⟩
        conv => whnf
        (refine st_callM [90] (ht) rfl ?_ ?_ rfl ?_; (focus ((repeat' (first | exact trivial | exact rfl | exact Or.inl rfl | exact Or.inr ⟨rfl, rfl⟩ | refine And.intro ?_ ?_)); done)); (focus ((repeat' (first | exact trivial | exact rfl | exact Or.inl rfl | exact Or.inr ⟨rfl, rfl⟩ | refine And.intro ?_ ?_)); done)); conv => whnf)
        refine ⟨Nat, fun i => ⟨90, [(0, .ptr 90 0), (1, .v (.int .i64 ((d + 1 : Nat) : Int))), (4, .ptr 4 0), (28, .v (.sl [[.int .i64 0], [.int .i64 1], [.int .i64 2]])), (29, .v (.int .i64 3)), (30, .v (.int .i64 (i : Nat)))], [(90, rdC s (a + 1)), (4, [.v (.int .i64 0), .v (.str (bt' [])), .v (.str (bt' [])), .v .nils, .v (.str (bt' [])), .v .nils])], []⟩, fun i => i ≤ 1, fun i => 3 - i, ⟨0, [], by decide, ?_⟩, fun i hi => ?_⟩
        · (focus ((repeat' (first | exact trivial | exact rfl | exact Or.inl rfl | exact Or.inr ⟨rfl, rfl⟩ | refine And.intro ?_ ?_)); done))
        · match i, hi with
          | 0, hi =>
            have hs0 := takes_fn (X := envX p) s hs (a + 1) ha1 { data := #[38] }
            rw [at_one, decide_eq_false (by rw [hj1]; decide), if_neg (by decide)] at hs0
            conv => whnf
            refine ⟨rfl, cmp_true (by decide) ?_⟩
            conv => whnf
            refine ⟨[.int .i64 0], by decide, rfl, rfl, ?_⟩
            conv => whnf
            refine ⟨some [0, 1, 2, 4, 3, 5, 6], by kernel_rfl, ?_⟩; conv => whnf
            (refine st_call (signs_fn (X := envX p)) ?_ rfl rfl ?_; (focus ((repeat' (first | exact trivial | exact rfl | exact Or.inl rfl | exact Or.inr ⟨rfl, rfl⟩ | refine And.intro ?_ ?_)); done)); conv => whnf)
            refine ⟨_, rfl, ?_⟩
            conv => whnf
            (refine st_callM [90] (hs0) rfl ?_ ?_ rfl ?_; (focus ((repeat' (first | exact trivial | exact rfl | exact Or.inl rfl | exact Or.inr ⟨rfl, rfl⟩ | refine And.intro ?_ ?_)); done)); (focus ((repeat' (first | exact trivial | exact rfl | exact Or.inl rfl | exact Or.inr ⟨rfl, rfl⟩ | refine And.intro ?_ ?_)); done)); conv => whnf)
            refine ⟨rfl, st_succ (by omega) ?_⟩
            conv => whnf
            exact ⟨1, [], by decide, by decide, by (focus ((repeat' (first | exact trivial | exact rfl | exact Or.inl rfl | exact Or.inr ⟨rfl, rfl⟩ | refine And.intro ?_ ?_)); done))⟩
          | 1, hi =>
            have hs1 := takes_fn (X := envX p) s hs (a + 1) ha1 { data := #[124] }
            rw [at_one, decide_eq_true hj1, if_pos rfl] at hs1
            conv => whnf
            refine ⟨rfl, cmp_true (by decide) ?_⟩
            conv => whnf
            refine ⟨[.int .i64 1], by decide, rfl, rfl, ?_⟩
            conv => whnf
            refine ⟨some [0, 1, 2, 4, 3, 5, 6], by kernel_rfl, ?_⟩; conv => whnf
            (refine st_call (signs_fn (X := envX p)) ?_ rfl rfl ?_; (focus ((repeat' (first | exact trivial | exact rfl | exact Or.inl rfl | exact Or.inr ⟨rfl, rfl⟩ | refine And.intro ?_ ?_)); done)); conv => whnf)
            refine ⟨_, rfl, ?_⟩
            conv => whnf
            (refine st_callM [90] (hs1) rfl ?_ ?_ rfl ?_; (focus ((repeat' (first | exact trivial | exact rfl | exact Or.inl rfl | exact Or.inr ⟨rfl, rfl⟩ | refine And.intro ?_ ?_)); done)); (focus ((repeat' (first | exact trivial | exact rfl | exact Or.inl rfl | exact Or.inr ⟨rfl, rfl⟩ | refine And.intro ?_ ?_)); done)); conv => whnf)
            (refine st_callM [90] (hset) rfl ?_ ?_ rfl ?_; (focus ((repeat' (first | exact trivial | exact rfl | exact Or.inl rfl | exact Or.inr ⟨rfl, rfl⟩ | refine And.intro ?_ ?_)); done)); (focus ((repeat' (first | exact trivial | exact rfl | exact Or.inl rfl | exact Or.inr ⟨rfl, rfl⟩ | refine And.intro ?_ ?_)); done)); conv => whnf)
            (focus ((repeat' (first | exact trivial | exact rfl | exact Or.inl rfl | exact Or.inr ⟨rfl, rfl⟩ | refine And.intro ?_ ?_)); done))
          | n + 2, hi => omega
    by_cases hj2 : ((bl s).drop (a + 1)).head? = some 33
    · -- sign 2
      obtain ⟨r, css', ho, hset⟩ := set_fn p s hs d (by omega) (fun a ha => read_fn s hs d a (by omega) ha) 2 (a + 1 + 1) (by have := head_lt hj2; omega)
      refine ⟨r, css', ?_, ?_⟩
      · rw [hda, rd_sign2 d _ hj2, List.tail_drop] ; exact ho
      have hfin : ∃ f e a', r = .tup [.v (.agg (cG f)), .v e] ∧ css' = [rdC s a'] ∧ (e = .nili ∨ ∃ i, e = fErr i) := by
        unfold OutOk at ho
        split at ho
        · exact ⟨_, _, _, ho.1, ho.2, .inl rfl⟩
        · obtain ⟨g, i, a', _, h1, h2⟩ := ho
          exact ⟨_, _, _, h1, h2, .inr ⟨_, rfl⟩⟩
      obtain ⟨fx, ex, ax, rfl, rfl, hex⟩ := hfin
      rcases hex with rfl | ⟨ie, rfl⟩
      all_goals
        refine fnM_prog tabOk mixed Tryz.f66 Tryz.func66 (by kernel_rfl) (by kernel_rfl) rfl rfl rfl rfl ?_
        conv => whnf
        refine ⟨rfl, cmp_false (by omega) ?_⟩
        conv => whnf
        (refine st_callM [90] (ht) rfl ?_ ?_ rfl ?_; (focus ((repeat' (first | exact trivial | exact rfl | exact Or.inl rfl | exact Or.inr ⟨rfl, rfl⟩ | refine And.intro ?_ ?_)); done)); (focus ((repeat' (first | exact trivial | exact rfl | exact Or.inl rfl | exact Or.inr ⟨rfl, rfl⟩ | refine And.intro ?_ ?_)); done)); conv => whnf)
        refine ⟨Nat, fun i => ⟨90, [(0, .ptr 90 0), (1, .v (.int .i64 ((d + 1 : Nat) : Int))), (4, .ptr 4 0), (28, .v (.sl [[.int .i64 0], [.int .i64 1], [.int .i64 2]])), (29, .v (.int .i64 3)), (30, .v (.int .i64 (i : Nat)))], [(90, rdC s (a + 1)), (4, [.v (.int .i64 0), .v (.str (bt' [])), .v (.str (bt' [])), .v .nils, .v (.str (bt' [])), .v .nils])], []⟩, fun i => i ≤ 2, fun i => 3 - i, ⟨0, [], by decide, ?_⟩, fun i hi => ?_⟩
        · (focus ((repeat' (first | exact trivial | exact rfl | exact Or.inl rfl | exact Or.inr ⟨rfl, rfl⟩ | refine And.intro ?_ ?_)); done))
        · match i, hi with
          | 0, hi =>
            have hs0 := takes_fn (X := envX p) s hs (a + 1) ha1 { data := #[38] }
            rw [at_one, decide_eq_false (by rw [hj2]; decide), if_neg (by decide)] at hs0
            conv => whnf
            refine ⟨rfl, cmp_true (by decide) ?_⟩
            conv => whnf
            refine ⟨[.int .i64 0], by decide, rfl, rfl, ?_⟩
            conv => whnf
            refine ⟨some [0, 1, 2, 4, 3, 5, 6], by kernel_rfl, ?_⟩; conv => whnf
            (refine st_call (signs_fn (X := envX p)) ?_ rfl rfl ?_; (focus ((repeat' (first | exact trivial | exact rfl | exact Or.inl rfl | exact Or.inr ⟨rfl, rfl⟩ | refine And.intro ?_ ?_)); done)); conv => whnf)
            refine ⟨_, rfl, ?_⟩
            conv => whnf
            (refine st_callM [90] (hs0) rfl ?_ ?_ rfl ?_; (focus ((repeat' (first | exact trivial | exact rfl | exact Or.inl rfl | exact Or.inr ⟨rfl, rfl⟩ | refine And.intro ?_ ?_)); done)); (focus ((repeat' (first | exact trivial | exact rfl | exact Or.inl rfl | exact Or.inr ⟨rfl, rfl⟩ | refine And.intro ?_ ?_)); done)); conv => whnf)
            refine ⟨rfl, st_succ (by omega) ?_⟩
            conv => whnf
            exact ⟨1, [], by decide, by decide, by (focus ((repeat' (first | exact trivial | exact rfl | exact Or.inl rfl | exact Or.inr ⟨rfl, rfl⟩ | refine And.intro ?_ ?_)); done))⟩
          | 1, hi =>
            have hs1 := takes_fn (X := envX p) s hs (a + 1) ha1 { data := #[124] }
            rw [at_one, decide_eq_false (by rw [hj2]; decide), if_neg (by decide)] at hs1
            conv => whnf
            refine ⟨rfl, cmp_true (by decide) ?_⟩
            conv => whnf
            refine ⟨[.int .i64 1], by decide, rfl, rfl, ?_⟩
            conv => whnf
            refine ⟨some [0, 1, 2, 4, 3, 5, 6], by kernel_rfl, ?_⟩; conv => whnf
            (refine st_call (signs_fn (X := envX p)) ?_ rfl rfl ?_; (focus ((repeat' (first | exact trivial | exact rfl | exact Or.inl rfl | exact Or.inr ⟨rfl, rfl⟩ | refine And.intro ?_ ?_)); done)); conv => whnf)
            refine ⟨_, rfl, ?_⟩
            conv => whnf
            (refine st_callM [90] (hs1) rfl ?_ ?_ rfl ?_; (focus ((repeat' (first | exact trivial | exact rfl | exact Or.inl rfl | exact Or.inr ⟨rfl, rfl⟩ | refine And.intro ?_ ?_)); done)); (focus ((repeat' (first | exact trivial | exact rfl | exact Or.inl rfl | exact Or.inr ⟨rfl, rfl⟩ | refine And.intro ?_ ?_)); done)); conv => whnf)
            refine ⟨rfl, st_succ (by omega) ?_⟩
            conv => whnf
            exact ⟨2, [], by decide, by decide, by (focus ((repeat' (first | exact trivial | exact rfl | exact Or.inl rfl | exact Or.inr ⟨rfl, rfl⟩ | refine And.intro ?_ ?_)); done))⟩
          | 2, hi =>
            have hs2 := takes_fn (X := envX p) s hs (a + 1) ha1 { data := #[33] }
            rw [at_one, decide_eq_true hj2, if_pos rfl] at hs2
            conv => whnf
            refine ⟨rfl, cmp_true (by decide) ?_⟩
            conv => whnf
            refine ⟨[.int .i64 2], by decide, rfl, rfl, ?_⟩
            conv => whnf
            refine ⟨some [0, 1, 2, 4, 3, 5, 6], by kernel_rfl, ?_⟩; conv => whnf
            (refine st_call (signs_fn (X := envX p)) ?_ rfl rfl ?_; (focus ((repeat' (first | exact trivial | exact rfl | exact Or.inl rfl | exact Or.inr ⟨rfl, rfl⟩ | refine And.intro ?_ ?_)); done)); conv => whnf)
            refine ⟨_, rfl, ?_⟩
            conv => whnf
            (refine st_callM [90] (hs2) rfl ?_ ?_ rfl ?_; (focus ((repeat' (first | exact trivial | exact rfl | exact Or.inl rfl | exact Or.inr ⟨rfl, rfl⟩ | refine And.intro ?_ ?_)); done)); (focus ((repeat' (first | exact trivial | exact rfl | exact Or.inl rfl | exact Or.inr ⟨rfl, rfl⟩ | refine And.intro ?_ ?_)); done)); conv => whnf)
            (refine st_callM [90] (hset) rfl ?_ ?_ rfl ?_; (focus ((repeat' (first | exact trivial | exact rfl | exact Or.inl rfl | exact Or.inr ⟨rfl, rfl⟩ | refine And.intro ?_ ?_)); done)); (focus ((repeat' (first | exact trivial | exact rfl | exact Or.inl rfl | exact Or.inr ⟨rfl, rfl⟩ | refine And.intro ?_ ?_)); done)); conv => whnf)
            (focus ((repeat' (first | exact trivial | exact rfl | exact Or.inl rfl | exact Or.inr ⟨rfl, rfl⟩ | refine And.intro ?_ ?_)); done))
          | n + 3, hi => omega
    have hrd := rd_none d ((bl s).drop (a + 1)) hj hj1 hj2
    rw [hda]
    rw [hrd]
    have hbl : bl (s.extract (a + 1) s.size) = (bl s).drop (a + 1) := by
      show (s.extract (a + 1) s.size).data.toList = _
      rw [Lib.extract_data, List.take_of_length_le (by rw [List.length_drop]; have := Txt.size_list s; unfold bl at *; omega)]
    have hc := cut_fn p (s.extract (a + 1) s.size) (by rw [ByteArray.size_extract]; omega) 41
    unfold cutT at hc
    rw [hbl] at hc
    cases hx : cutL 41 ((bl s).drop (a + 1)) with
    | none =>
      rw [hx] at hc
      dsimp only at hc ⊢
      refine ⟨.tup [.v (.agg (cG f0)), .v (fErr ((a + 1 : Nat) : Int))], [rdC s (a + 1)], ⟨f0, ((a + 1 : Nat) : Int), a + 1, ha1, rfl, rfl⟩, ?_⟩
      refine fnM_prog tabOk mixed Tryz.f66 Tryz.func66 (by kernel_rfl) (by kernel_rfl) rfl rfl rfl rfl ?_
      conv => whnf
      refine ⟨rfl, cmp_false (by omega) ?_⟩
      conv => whnf
      (refine st_callM [90] (ht) rfl ?_ ?_ rfl ?_; (focus ((repeat' (first | exact trivial | exact rfl | exact Or.inl rfl | exact Or.inr ⟨rfl, rfl⟩ | refine And.intro ?_ ?_)); done)); (focus ((repeat' (first | exact trivial | exact rfl | exact Or.inl rfl | exact Or.inr ⟨rfl, rfl⟩ | refine And.intro ?_ ?_)); done)); conv => whnf)
      refine ⟨Nat, fun i => ⟨90, [(0, .ptr 90 0), (1, .v (.int .i64 ((d + 1 : Nat) : Int))), (4, .ptr 4 0), (28, .v (.sl [[.int .i64 0], [.int .i64 1], [.int .i64 2]])), (29, .v (.int .i64 3)), (30, .v (.int .i64 (i : Nat)))], [(90, rdC s (a + 1)), (4, [.v (.int .i64 0), .v (.str (bt' [])), .v (.str (bt' [])), .v .nils, .v (.str (bt' [])), .v .nils])], []⟩, fun i => i ≤ 3, fun i => 3 - i, ⟨0, [], by decide, ?_⟩, fun i hi => ?_⟩
      · (focus ((repeat' (first | exact trivial | exact rfl | exact Or.inl rfl | exact Or.inr ⟨rfl, rfl⟩ | refine And.intro ?_ ?_)); done))
      · match i, hi with
        | 0, hi =>
          have hs0 := takes_fn (X := envX p) s hs (a + 1) ha1 { data := #[38] }
          rw [at_one, decide_eq_false hj, if_neg (by decide)] at hs0
          conv => whnf
          refine ⟨rfl, cmp_true (by decide) ?_⟩
          conv => whnf
          refine ⟨[.int .i64 0], by decide, rfl, rfl, ?_⟩
          conv => whnf
          refine ⟨some [0, 1, 2, 4, 3, 5, 6], by kernel_rfl, ?_⟩; conv => whnf
          (refine st_call (signs_fn (X := envX p)) ?_ rfl rfl ?_; (focus ((repeat' (first | exact trivial | exact rfl | exact Or.inl rfl | exact Or.inr ⟨rfl, rfl⟩ | refine And.intro ?_ ?_)); done)); conv => whnf)
          refine ⟨_, rfl, ?_⟩
          conv => whnf
          (refine st_callM [90] (hs0) rfl ?_ ?_ rfl ?_; (focus ((repeat' (first | exact trivial | exact rfl | exact Or.inl rfl | exact Or.inr ⟨rfl, rfl⟩ | refine And.intro ?_ ?_)); done)); (focus ((repeat' (first | exact trivial | exact rfl | exact Or.inl rfl | exact Or.inr ⟨rfl, rfl⟩ | refine And.intro ?_ ?_)); done)); conv => whnf)
          refine ⟨rfl, st_succ (by omega) ?_⟩
          conv => whnf
          exact ⟨1, [], by decide, by decide, by (focus ((repeat' (first | exact trivial | exact rfl | exact Or.inl rfl | exact Or.inr ⟨rfl, rfl⟩ | refine And.intro ?_ ?_)); done))⟩
        | 1, hi =>
          have hs1 := takes_fn (X := envX p) s hs (a + 1) ha1 { data := #[124] }
          rw [at_one, decide_eq_false hj1, if_neg (by decide)] at hs1
          conv => whnf
          refine ⟨rfl, cmp_true (by decide) ?_⟩
          conv => whnf
          refine ⟨[.int .i64 1], by decide, rfl, rfl, ?_⟩
          conv => whnf
          refine ⟨some [0, 1, 2, 4, 3, 5, 6], by kernel_rfl, ?_⟩; conv => whnf
          (refine st_call (signs_fn (X := envX p)) ?_ rfl rfl ?_; (focus ((repeat' (first | exact trivial | exact rfl | exact Or.inl rfl | exact Or.inr ⟨rfl, rfl⟩ | refine And.intro ?_ ?_)); done)); conv => whnf)
          refine ⟨_, rfl, ?_⟩
          conv => whnf
          (refine st_callM [90] (hs1) rfl ?_ ?_ rfl ?_; (focus ((repeat' (first | exact trivial | exact rfl | exact Or.inl rfl | exact Or.inr ⟨rfl, rfl⟩ | refine And.intro ?_ ?_)); done)); (focus ((repeat' (first | exact trivial | exact rfl | exact Or.inl rfl | exact Or.inr ⟨rfl, rfl⟩ | refine And.intro ?_ ?_)); done)); conv => whnf)
          refine ⟨rfl, st_succ (by omega) ?_⟩
          conv => whnf
          exact ⟨2, [], by decide, by decide, by (focus ((repeat' (first | exact trivial | exact rfl | exact Or.inl rfl | exact Or.inr ⟨rfl, rfl⟩ | refine And.intro ?_ ?_)); done))⟩
        | 2, hi =>
          have hs2 := takes_fn (X := envX p) s hs (a + 1) ha1 { data := #[33] }
          rw [at_one, decide_eq_false hj2, if_neg (by decide)] at hs2
          conv => whnf
          refine ⟨rfl, cmp_true (by decide) ?_⟩
          conv => whnf
          refine ⟨[.int .i64 2], by decide, rfl, rfl, ?_⟩
          conv => whnf
          refine ⟨some [0, 1, 2, 4, 3, 5, 6], by kernel_rfl, ?_⟩; conv => whnf
          (refine st_call (signs_fn (X := envX p)) ?_ rfl rfl ?_; (focus ((repeat' (first | exact trivial | exact rfl | exact Or.inl rfl | exact Or.inr ⟨rfl, rfl⟩ | refine And.intro ?_ ?_)); done)); conv => whnf)
          refine ⟨_, rfl, ?_⟩
          conv => whnf
          (refine st_callM [90] (hs2) rfl ?_ ?_ rfl ?_; (focus ((repeat' (first | exact trivial | exact rfl | exact Or.inl rfl | exact Or.inr ⟨rfl, rfl⟩ | refine And.intro ?_ ?_)); done)); (focus ((repeat' (first | exact trivial | exact rfl | exact Or.inl rfl | exact Or.inr ⟨rfl, rfl⟩ | refine And.intro ?_ ?_)); done)); conv => whnf)
          refine ⟨rfl, st_succ (by omega) ?_⟩
          conv => whnf
          exact ⟨3, [], by decide, by decide, by (focus ((repeat' (first | exact trivial | exact rfl | exact Or.inl rfl | exact Or.inr ⟨rfl, rfl⟩ | refine And.intro ?_ ?_)); done))⟩
        | 3, hi =>
          conv => whnf
          refine ⟨rfl, cmp_false (by decide) ?_⟩
          conv => whnf
          refine ⟨none, by kernel_rfl, ?_⟩; conv => whnf
          refine st_cut (a + 1) s.size rfl rfl ha1 (Nat.le_refl _) ?_
          conv => whnf
          (refine st_call hc ?_ rfl rfl ?_; (focus ((repeat' (first | exact trivial | exact rfl | exact Or.inl rfl | exact Or.inr ⟨rfl, rfl⟩ | refine And.intro ?_ ?_)); done)); conv => whnf)
          refine ⟨some [0, 1, 2, 3, 4, 1005, 6, 7, 8, 9], by kernel_rfl, ?_⟩; conv => whnf
          (focus ((repeat' (first | exact trivial | exact rfl | exact Or.inl rfl | exact Or.inr ⟨rfl, rfl⟩ | refine And.intro ?_ ?_)); done))
        | n + 4, hi => omega
    | some q =>
      obtain ⟨x, y⟩ := q
      rw [hx] at hc
      dsimp only at hc ⊢
      have hxy := cutL_app 41 _ _ _ hx
      have hlen := congrArg List.length hxy
      rw [List.length_drop, size_bl, List.length_append, List.length_cons] at hlen
      have hzx : (bt' x).size = x.length := by rw [← size_bl, bl_of]
      have hit := item_fn p (bt' x) (by omega)
      rw [bl_of] at hit
      unfold itR at hit
      cases hI : itemF x with
      | some f =>
        rw [hI] at hit
        dsimp only at hit
        refine ⟨.tup [.v (.agg (cG f)), .v .nili], [rdC s (s.size - y.length)], ⟨rfl, rfl⟩, ?_⟩
        rw [show s.size - y.length = a + 1 + ((bt' x).size + 1) by omega]
        refine fnM_prog tabOk mixed Tryz.f66 Tryz.func66 (by kernel_rfl) (by kernel_rfl) rfl rfl rfl rfl ?_
        conv => whnf
        refine ⟨rfl, cmp_false (by omega) ?_⟩
        conv => whnf
        (refine st_callM [90] (ht) rfl ?_ ?_ rfl ?_; (focus ((repeat' (first | exact trivial | exact rfl | exact Or.inl rfl | exact Or.inr ⟨rfl, rfl⟩ | refine And.intro ?_ ?_)); done)); (focus ((repeat' (first | exact trivial | exact rfl | exact Or.inl rfl | exact Or.inr ⟨rfl, rfl⟩ | refine And.intro ?_ ?_)); done)); conv => whnf)
        refine ⟨Nat, fun i => ⟨90, [(0, .ptr 90 0), (1, .v (.int .i64 ((d + 1 : Nat) : Int))), (4, .ptr 4 0), (28, .v (.sl [[.int .i64 0], [.int .i64 1], [.int .i64 2]])), (29, .v (.int .i64 3)), (30, .v (.int .i64 (i : Nat)))], [(90, rdC s (a + 1)), (4, [.v (.int .i64 0), .v (.str (bt' [])), .v (.str (bt' [])), .v .nils, .v (.str (bt' [])), .v .nils])], []⟩, fun i => i ≤ 3, fun i => 3 - i, ⟨0, [], by decide, ?_⟩, fun i hi => ?_⟩
        · (focus ((repeat' (first | exact trivial | exact rfl | exact Or.inl rfl | exact Or.inr ⟨rfl, rfl⟩ | refine And.intro ?_ ?_)); done))
        · match i, hi with
          | 0, hi =>
            have hs0 := takes_fn (X := envX p) s hs (a + 1) ha1 { data := #[38] }
            rw [at_one, decide_eq_false hj, if_neg (by decide)] at hs0
            conv => whnf
            refine ⟨rfl, cmp_true (by decide) ?_⟩
            conv => whnf
            refine ⟨[.int .i64 0], by decide, rfl, rfl, ?_⟩
            conv => whnf
            refine ⟨some [0, 1, 2, 4, 3, 5, 6], by kernel_rfl, ?_⟩; conv => whnf
            (refine st_call (signs_fn (X := envX p)) ?_ rfl rfl ?_; (focus ((repeat' (first | exact trivial | exact rfl | exact Or.inl rfl | exact Or.inr ⟨rfl, rfl⟩ | refine And.intro ?_ ?_)); done)); conv => whnf)
            refine ⟨_, rfl, ?_⟩
            conv => whnf
            (refine st_callM [90] (hs0) rfl ?_ ?_ rfl ?_; (focus ((repeat' (first | exact trivial | exact rfl | exact Or.inl rfl | exact Or.inr ⟨rfl, rfl⟩ | refine And.intro ?_ ?_)); done)); (focus ((repeat' (first | exact trivial | exact rfl | exact Or.inl rfl | exact Or.inr ⟨rfl, rfl⟩ | refine And.intro ?_ ?_)); done)); conv => whnf)
            refine ⟨rfl, st_succ (by omega) ?_⟩
            conv => whnf
            exact ⟨1, [], by decide, by decide, by (focus ((repeat' (first | exact trivial | exact rfl | exact Or.inl rfl | exact Or.inr ⟨rfl, rfl⟩ | refine And.intro ?_ ?_)); done))⟩
          | 1, hi =>
            have hs1 := takes_fn (X := envX p) s hs (a + 1) ha1 { data := #[124] }
            rw [at_one, decide_eq_false hj1, if_neg (by decide)] at hs1
            conv => whnf
            refine ⟨rfl, cmp_true (by decide) ?_⟩
            conv => whnf
            refine ⟨[.int .i64 1], by decide, rfl, rfl, ?_⟩
            conv => whnf
            refine ⟨some [0, 1, 2, 4, 3, 5, 6], by kernel_rfl, ?_⟩; conv => whnf
            (refine st_call (signs_fn (X := envX p)) ?_ rfl rfl ?_; (focus ((repeat' (first | exact trivial | exact rfl | exact Or.inl rfl | exact Or.inr ⟨rfl, rfl⟩ | refine And.intro ?_ ?_)); done)); conv => whnf)
            refine ⟨_, rfl, ?_⟩
            conv => whnf
            (refine st_callM [90] (hs1) rfl ?_ ?_ rfl ?_; (focus ((repeat' (first | exact trivial | exact rfl | exact Or.inl rfl | exact Or.inr ⟨rfl, rfl⟩ | refine And.intro ?_ ?_)); done)); (focus ((repeat' (first | exact trivial | exact rfl | exact Or.inl rfl | exact Or.inr ⟨rfl, rfl⟩ | refine And.intro ?_ ?_)); done)); conv => whnf)
            refine ⟨rfl, st_succ (by omega) ?_⟩
            conv => whnf
            exact ⟨2, [], by decide, by decide, by (focus ((repeat' (first | exact trivial | exact rfl | exact Or.inl rfl | exact Or.inr ⟨rfl, rfl⟩ | refine And.intro ?_ ?_)); done))⟩
          | 2, hi =>
            have hs2 := takes_fn (X := envX p) s hs (a + 1) ha1 { data := #[33] }
            rw [at_one, decide_eq_false hj2, if_neg (by decide)] at hs2
            conv => whnf
            refine ⟨rfl, cmp_true (by decide) ?_⟩
            conv => whnf
            refine ⟨[.int .i64 2], by decide, rfl, rfl, ?_⟩
            conv => whnf
            refine ⟨some [0, 1, 2, 4, 3, 5, 6], by kernel_rfl, ?_⟩; conv => whnf
            (refine st_call (signs_fn (X := envX p)) ?_ rfl rfl ?_; (focus ((repeat' (first | exact trivial | exact rfl | exact Or.inl rfl | exact Or.inr ⟨rfl, rfl⟩ | refine And.intro ?_ ?_)); done)); conv => whnf)
            refine ⟨_, rfl, ?_⟩
            conv => whnf
            (refine st_callM [90] (hs2) rfl ?_ ?_ rfl ?_; (focus ((repeat' (first | exact trivial | exact rfl | exact Or.inl rfl | exact Or.inr ⟨rfl, rfl⟩ | refine And.intro ?_ ?_)); done)); (focus ((repeat' (first | exact trivial | exact rfl | exact Or.inl rfl | exact Or.inr ⟨rfl, rfl⟩ | refine And.intro ?_ ?_)); done)); conv => whnf)
            refine ⟨rfl, st_succ (by omega) ?_⟩
            conv => whnf
            exact ⟨3, [], by decide, by decide, by (focus ((repeat' (first | exact trivial | exact rfl | exact Or.inl rfl | exact Or.inr ⟨rfl, rfl⟩ | refine And.intro ?_ ?_)); done))⟩
          | 3, hi =>
            conv => whnf
            refine ⟨rfl, cmp_false (by decide) ?_⟩
            conv => whnf
            refine ⟨none, by kernel_rfl, ?_⟩; conv => whnf
            refine st_cut (a + 1) s.size rfl rfl ha1 (Nat.le_refl _) ?_
            conv => whnf
            (refine st_call hc ?_ rfl rfl ?_; (focus ((repeat' (first | exact trivial | exact rfl | exact Or.inl rfl | exact Or.inr ⟨rfl, rfl⟩ | refine And.intro ?_ ?_)); done)); conv => whnf)
            refine ⟨rfl, st_succ (by omega) ?_⟩
            conv => whnf
            refine st_add (a + 1) ((bt' x).size + 1) (by omega) ?_
            conv => whnf
            (refine st_call hit ?_ rfl rfl ?_; (focus ((repeat' (first | exact trivial | exact rfl | exact Or.inl rfl | exact Or.inr ⟨rfl, rfl⟩ | refine And.intro ?_ ?_)); done)); conv => whnf)
            (focus ((repeat' (first | exact trivial | exact rfl | exact Or.inl rfl | exact Or.inr ⟨rfl, rfl⟩ | refine And.intro ?_ ?_)); done))
          | n + 4, hi => omega
      | none =>
        rw [hI] at hit
        dsimp only at hit
        refine ⟨.tup [.v (.agg (cG f0)), .v (fErr (errI x : Nat))], [rdC s (a + 1 + ((bt' x).size + 1))], ⟨f0, _, _, by omega, rfl, rfl⟩, ?_⟩
        refine fnM_prog tabOk mixed Tryz.f66 Tryz.func66 (by kernel_rfl) (by kernel_rfl) rfl rfl rfl rfl ?_
        conv => whnf
        refine ⟨rfl, cmp_false (by omega) ?_⟩
        conv => whnf
        (refine st_callM [90] (ht) rfl ?_ ?_ rfl ?_; (focus ((repeat' (first | exact trivial | exact rfl | exact Or.inl rfl | exact Or.inr ⟨rfl, rfl⟩ | refine And.intro ?_ ?_)); done)); (focus ((repeat' (first | exact trivial | exact rfl | exact Or.inl rfl | exact Or.inr ⟨rfl, rfl⟩ | refine And.intro ?_ ?_)); done)); conv => whnf)
        refine ⟨Nat, fun i => ⟨90, [(0, .ptr 90 0), (1, .v (.int .i64 ((d + 1 : Nat) : Int))), (4, .ptr 4 0), (28, .v (.sl [[.int .i64 0], [.int .i64 1], [.int .i64 2]])), (29, .v (.int .i64 3)), (30, .v (.int .i64 (i : Nat)))], [(90, rdC s (a + 1)), (4, [.v (.int .i64 0), .v (.str (bt' [])), .v (.str (bt' [])), .v .nils, .v (.str (bt' [])), .v .nils])], []⟩, fun i => i ≤ 3, fun i => 3 - i, ⟨0, [], by decide, ?_⟩, fun i hi => ?_⟩
        · (focus ((repeat' (first | exact trivial | exact rfl | exact Or.inl rfl | exact Or.inr ⟨rfl, rfl⟩ | refine And.intro ?_ ?_)); done))
        · match i, hi with
          | 0, hi =>
            have hs0 := takes_fn (X := envX p) s hs (a + 1) ha1 { data := #[38] }
            rw [at_one, decide_eq_false hj, if_neg (by decide)] at hs0
            conv => whnf
            refine ⟨rfl, cmp_true (by decide) ?_⟩
            conv => whnf
            refine ⟨[.int .i64 0], by decide, rfl, rfl, ?_⟩
            conv => whnf
            refine ⟨some [0, 1, 2, 4, 3, 5, 6], by kernel_rfl, ?_⟩; conv => whnf
            (refine st_call (signs_fn (X := envX p)) ?_ rfl rfl ?_; (focus ((repeat' (first | exact trivial | exact rfl | exact Or.inl rfl | exact Or.inr ⟨rfl, rfl⟩ | refine And.intro ?_ ?_)); done)); conv => whnf)
            refine ⟨_, rfl, ?_⟩
            conv => whnf
            (refine st_callM [90] (hs0) rfl ?_ ?_ rfl ?_; (focus ((repeat' (first | exact trivial | exact rfl | exact Or.inl rfl | exact Or.inr ⟨rfl, rfl⟩ | refine And.intro ?_ ?_)); done)); (focus ((repeat' (first | exact trivial | exact rfl | exact Or.inl rfl | exact Or.inr ⟨rfl, rfl⟩ | refine And.intro ?_ ?_)); done)); conv => whnf)
            refine ⟨rfl, st_succ (by omega) ?_⟩
            conv => whnf
            exact ⟨1, [], by decide, by decide, by (focus ((repeat' (first | exact trivial | exact rfl | exact Or.inl rfl | exact Or.inr ⟨rfl, rfl⟩ | refine And.intro ?_ ?_)); done))⟩
          | 1, hi =>
            have hs1 := takes_fn (X := envX p) s hs (a + 1) ha1 { data := #[124] }
            rw [at_one, decide_eq_false hj1, if_neg (by decide)] at hs1
            conv => whnf
            refine ⟨rfl, cmp_true (by decide) ?_⟩
            conv => whnf
            refine ⟨[.int .i64 1], by decide, rfl, rfl, ?_⟩
            conv => whnf
            refine ⟨some [0, 1, 2, 4, 3, 5, 6], by kernel_rfl, ?_⟩; conv => whnf
            (refine st_call (signs_fn (X := envX p)) ?_ rfl rfl ?_; (focus ((repeat' (first | exact trivial | exact rfl | exact Or.inl rfl | exact Or.inr ⟨rfl, rfl⟩ | refine And.intro ?_ ?_)); done)); conv => whnf)
            refine ⟨_, rfl, ?_⟩
            conv => whnf
            (refine st_callM [90] (hs1) rfl ?_ ?_ rfl ?_; (focus ((repeat' (first | exact trivial | exact rfl | exact Or.inl rfl | exact Or.inr ⟨rfl, rfl⟩ | refine And.intro ?_ ?_)); done)); (focus ((repeat' (first | exact trivial | exact rfl | exact Or.inl rfl | exact Or.inr ⟨rfl, rfl⟩ | refine And.intro ?_ ?_)); done)); conv => whnf)
            refine ⟨rfl, st_succ (by omega) ?_⟩
            conv => whnf
            exact ⟨2, [], by decide, by decide, by (focus ((repeat' (first | exact trivial | exact rfl | exact Or.inl rfl | exact Or.inr ⟨rfl, rfl⟩ | refine And.intro ?_ ?_)); done))⟩
          | 2, hi =>
            have hs2 := takes_fn (X := envX p) s hs (a + 1) ha1 { data := #[33] }
            rw [at_one, decide_eq_false hj2, if_neg (by decide)] at hs2
            conv => whnf
            refine ⟨rfl, cmp_true (by decide) ?_⟩
            conv => whnf
            refine ⟨[.int .i64 2], by decide, rfl, rfl, ?_⟩
            conv => whnf
            refine ⟨some [0, 1, 2, 4, 3, 5, 6], by kernel_rfl, ?_⟩; conv => whnf
            (refine st_call (signs_fn (X := envX p)) ?_ rfl rfl ?_; (focus ((repeat' (first | exact trivial | exact rfl | exact Or.inl rfl | exact Or.inr ⟨rfl, rfl⟩ | refine And.intro ?_ ?_)); done)); conv => whnf)
            refine ⟨_, rfl, ?_⟩
            conv => whnf
            (refine st_callM [90] (hs2) rfl ?_ ?_ rfl ?_; (focus ((repeat' (first | exact trivial | exact rfl | exact Or.inl rfl | exact Or.inr ⟨rfl, rfl⟩ | refine And.intro ?_ ?_)); done)); (focus ((repeat' (first | exact trivial | exact rfl | exact Or.inl rfl | exact Or.inr ⟨rfl, rfl⟩ | refine And.intro ?_ ?_)); done)); conv => whnf)
            refine ⟨rfl, st_succ (by omega) ?_⟩
            conv => whnf
            exact ⟨3, [], by decide, by decide, by (focus ((repeat' (first | exact trivial | exact rfl | exact Or.inl rfl | exact Or.inr ⟨rfl, rfl⟩ | refine And.intro ?_ ?_)); done))⟩
          | 3, hi =>
            conv => whnf
            refine ⟨rfl, cmp_false (by decide) ?_⟩
            conv => whnf
            refine ⟨none, by kernel_rfl, ?_⟩; conv => whnf
            refine st_cut (a + 1) s.size rfl rfl ha1 (Nat.le_refl _) ?_
            conv => whnf
            (refine st_call hc ?_ rfl rfl ?_; (focus ((repeat' (first | exact trivial | exact rfl | exact Or.inl rfl | exact Or.inr ⟨rfl, rfl⟩ | refine And.intro ?_ ?_)); done)); conv => whnf)
            refine ⟨rfl, st_succ (by omega) ?_⟩
            conv => whnf
            refine st_add (a + 1) ((bt' x).size + 1) (by omega) ?_
            conv => whnf
            (refine st_call hit ?_ rfl rfl ?_; (focus ((repeat' (first | exact trivial | exact rfl | exact Or.inl rfl | exact Or.inr ⟨rfl, rfl⟩ | refine And.intro ?_ ?_)); done)); conv => whnf)
            (focus ((repeat' (first | exact trivial | exact rfl | exact Or.inl rfl | exact Or.inr ⟨rfl, rfl⟩ | refine And.intro ?_ ?_)); done))
          | n + 4, hi => omega
end Go.Proofs.YtiafggoaedifdaaGreatDoor.Fi
