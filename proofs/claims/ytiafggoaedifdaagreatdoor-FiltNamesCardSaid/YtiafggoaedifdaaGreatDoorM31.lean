/- filt, walked: the filter of what stands between its signs. Conditions: texts of at most 10^8 bytes. -/
import Derived.Test.YtiafggoaedifdaaGreatDoorM24
import Derived.Test.YtiafggoaedifdaaGreatDoorM30
import Derived.Test.YtiafggoaedifdaaGreatDoorM20
namespace Go.Proofs.YtiafggoaedifdaaGreatDoor.Fi
open Go.RowKit Go.Shelf Go.Lib Fl
set_option linter.unusedVariables false
/-- the kind that a name's end tells, and the name, where some signs were looked at -/
def endJ (x : List UInt8) (seen : List Nat) : Int × List UInt8 :=
  if x.getLast? = some 62 ∧ 0 ∈ seen then (5, x.dropLast) else if x.getLast? = some 60 ∧ 1 ∈ seen then (6, x.dropLast) else if x.getLast? = some 126 ∧ 2 ∈ seen then (8, x.dropLast) else (3, x)
theorem endJ_all (x : List UInt8) (seen : List Nat) (h : ∀ i, i < 3 → i ∈ seen) : endJ x seen = endK x := by
  unfold endJ endK
  simp [h 0 (by omega), h 1 (by omega), h 2 (by omega)]
theorem suf_one (x : List UInt8) (c : UInt8) : sufB (bt' x) { data := #[c] } = decide (x.getLast? = some c) := by
  have hz : (bt' x).size = x.length := by rw [← size_bl, bl_of]
  unfold sufB
  rw [hz]
  have h1 : ({ data := #[c] } : ByteArray).size = 1 := rfl
  rw [h1]
  rcases List.eq_nil_or_concat x with rfl | ⟨t, b, hxx⟩
  · simp
  · rw [List.concat_eq_append] at hxx
    subst hxx
    have hl : ((bt' (t ++ [b])).extract ((t ++ [b]).length - 1) (t ++ [b]).length).data.toList = [b] := by
      rw [Lib.extract_data]
      show ((t ++ [b]).toArray.toList.drop _).take _ = _
      simp
    rw [decide_eq_true (show 1 ≤ (t ++ [b]).length by simp), Bool.true_and]
    apply decide_eq_decide.2
    rw [List.getLast?_append]
    simp only [List.getLast?_singleton, Option.some_or, Option.some.injEq]
    constructor
    · intro h
      rw [h] at hl
      simpa using hl.symm
    · intro h
      apply ByteArray.ext
      apply Array.toList_inj.1
      rw [hl, h]
theorem cut_one_end (x : List UInt8) (c : UInt8) : cutE (bt' x) { data := #[c] } = if x.getLast? = some c then bt' x.dropLast else bt' x := by
  have hz : (bt' x).size = x.length := by rw [← size_bl, bl_of]
  unfold cutE
  rw [suf_one]
  by_cases h : x.getLast? = some c
  · rw [decide_eq_true h, if_pos rfl, if_pos h]
    apply ByteArray.ext
    apply Array.toList_inj.1
    rw [Lib.extract_data, hz]
    show (x.toArray.toList.drop 0).take (x.length - 1 - 0) = x.dropLast.toArray.toList
    simp [List.dropLast_eq_take]
  · rw [decide_eq_false h, if_neg (by decide), if_neg h]
def itOk (o : Option Flt) (r : T) : Prop := match o with
  | some f => r = .tup [.v (.agg (cG f)), .v .nili]
  | none => ∃ (f0 : Flt) (i : Int), r = .tup [.v (.agg (cG f0)), .v (fErr i)]
theorem allM_len {α β : Type} (g : α → Option β) : ∀ (l : List α) (v : List β), Dn.allM g l = some v → v.length = l.length
  | [], v, h => by cases h; rfl
  | x :: r, v, h => by
    rw [Dn.allM] at h
    cases hg : g x with
    | none => rw [hg] at h; cases h
    | some y =>
      rw [hg] at h
      dsimp only at h
      obtain ⟨w, hw, rfl⟩ := Option.map_eq_some_iff.1 h
      simp [allM_len g r w hw]
/-- where a filter's values are wrong -/
def errI (s : List UInt8) : Nat := match cutL 61 s with
  | none => 0
  | some (x, y) => if (endK x).1 = 3 ∧ y.contains 42 = true then badAt (spl 42 (bt' y)) else badAt [bt' y]
def itR (s : List UInt8) : T := match itemF s with
  | some f => .tup [.v (.agg (cG f)), .v .nili]
  | none => .tup [.v (.agg (cG f0)), .v (fErr (errI s : Nat))]
theorem endK3 {x : List UInt8} (h : (endK x).1 = 3) : (endK x).2 = x := by
  unfold endK at h ⊢
  split at h
  · exact absurd h (by show ¬ (5 : Int) = 3; decide)
  split at h
  · exact absurd h (by show ¬ (6 : Int) = 3; decide)
  split at h
  · exact absurd h (by show ¬ (8 : Int) = 3; decide)
  · rename_i h1 h2 h3
    rw [if_neg h1, if_neg h2, if_neg h3]
theorem spl_len (c : UInt8) (y : List UInt8) : (spl c (bt' y)).length = (Txt.splitOn c y).length := by
  unfold spl
  rw [List.length_map, bl_of]
theorem split_sub (c : UInt8) : ∀ (l : List UInt8), ∀ z ∈ Txt.splitOn c l, z.length ≤ l.length
  | [], z, h => by
    have : z = [] := by simpa [Txt.splitOn] using h
    rw [this]; exact Nat.le_refl _
  | x :: t, z, h => by
    have ih := split_sub c t
    rw [Txt.splitOn] at h
    split at h
    · rcases List.mem_cons.1 h with rfl | h
      · simp
      · have := ih z h; simp; omega
    · split at h
      · rename_i e
        exact absurd e (Txt.splitOn_ne c t)
      · rename_i a r e
        rcases List.mem_cons.1 h with rfl | h
        · have := ih a (by rw [e]; simp); simp; omega
        · have := ih z (by rw [e]; simp [h]); simp; omega
theorem spl_size (c : UInt8) (y : List UInt8) : ∀ z ∈ spl c (bt' y), z.size ≤ y.length := fun z hz => by
  unfold spl at hz
  rw [bl_of] at hz
  obtain ⟨u, hu, rfl⟩ := List.mem_map.1 hz
  rw [← size_bl, bl_of]
  exact split_sub c y u hu
theorem allM_spl (y : List UInt8) : Dn.allM (fun s => readV (bl s)) (spl 42 (bt' y)) = Dn.allM readV (Txt.splitOn 42 y) := by
  unfold spl
  rw [bl_of]
  generalize Txt.splitOn 42 y = l
  induction l with
  | nil => rfl
  | cons a r ih => rw [List.map_cons, Dn.allM, Dn.allM, bl_of, ih]
theorem read_one (y : List UInt8) : readV y = match Dn.allM (fun s => readV (bl s)) [bt' y] with | some [w] => some w | _ => none := by
  rw [Dn.allM, bl_of]
  cases readV y <;> rfl
variable (p : Nat → Addr)
set_option maxHeartbeats 4000000 in
theorem item_fn (s : ByteArray) (hs : s.size ≤ 100000000) : Fn Tryz.prog (envX p) 97 [.v (.str s)] (itR (bl s)) := by
  have hc := cut_fn p s hs 61
  unfold cutT at hc
  refine fn_prog tabOk mixed Tryz.f97 Tryz.func97 (by kernel_rfl) (by kernel_rfl) ?_
  conv => whnf
  cases hx : cutL 61 (bl s) with
  | none =>
    rw [hx] at hc
    dsimp only at hc
    (refine st_call hc ?_ rfl rfl ?_; (focus ((repeat' (first | exact trivial | exact rfl | exact Or.inl rfl | exact Or.inr ⟨rfl, rfl⟩ | refine And.intro ?_ ?_)); done)); conv => whnf)
    unfold itR errI itemF
    rw [hx]
    exact ⟨⟨.inr ⟨rfl, rfl⟩, .inl rfl, trivial⟩, rfl⟩
  | some q =>
    obtain ⟨x, y⟩ := q
    rw [hx] at hc
    dsimp only at hc
    have hxy := cutL_app 61 _ _ _ hx
    have hlen : x.length + y.length ≤ 100000000 := by
      have := congrArg List.length hxy
      rw [size_bl, List.length_append, List.length_cons] at this
      omega
    have hzx : (bt' x).size = x.length := by rw [← size_bl, bl_of]
    have hzy : (bt' y).size = y.length := by rw [← size_bl, bl_of]
    (refine st_call hc ?_ rfl rfl ?_; (focus ((repeat' (first | exact trivial | exact rfl | exact Or.inl rfl | exact Or.inr ⟨rfl, rfl⟩ | refine And.intro ?_ ?_)); done)); conv => whnf)
    refine ⟨⟨98, [(2, .ptr 2 0), (3, .v .nili), (4, .v (.str (bt' x))), (5, .v (.str (bt' y))), (7, .ptr 7 0)], [(2, [.v (.int .i64 0), .v (.str (bt' [])), .v (.str (bt' [])), .v .nils, .v (.str (bt' [])), .v .nils]), (7, [.v (.int .i64 (endK x).1), .v (.str (bt' (endK x).2)), .v (.str (bt' [])), .v .nils, .v (.str (bt' [])), .v .nils])], []⟩, ?_, ?_⟩
    · refine rng_frn (M := 5) (t := 93) (sm := 30) (it := 31) (tn := 32) (tx := 33) (te := 34)
        (ks := [.int .i64 5, .int .i64 6, .int .i64 8]) (vs := [.str { data := #[62] }, .str { data := #[60] }, .str { data := #[126] }])
        (I := fun seen => ⟨98, [(2, .ptr 2 0), (3, .v .nili), (4, .v (.str (bt' x))), (5, .v (.str (bt' y))), (7, .ptr 7 0)], [(2, [.v (.int .i64 0), .v (.str (bt' [])), .v (.str (bt' [])), .v .nils, .v (.str (bt' [])), .v .nils]), (7, [.v (.int .i64 (endJ x seen).1), .v (.str (bt' (endJ x seen).2)), .v (.str (bt' [])), .v .nils, .v (.str (bt' [])), .v .nils])], []⟩)
        tabOk mixed rfl rfl rfl rfl rfl (by kernel_rfl) rfl rfl rfl rfl rfl rfl rfl rfl rfl rfl (show (31 : Nat) < 98 by decide) (show (32 : Nat) < 98 by decide) (show (33 : Nat) < 98 by decide) (by decide) (by decide) (by decide) (by decide) rfl ?_ ?_ ?_
      · rw [show endJ x [] = (3, x) from by unfold endJ; simp]
        conv => whnf
        refine ⟨rfl, [], ?_⟩
        (focus ((repeat' (first | exact trivial | exact rfl | exact Or.inl rfl | exact Or.inr ⟨rfl, rfl⟩ | refine And.intro ?_ ?_)); done))
      · intro seen j k v hnd hj hlt hk hv
        match j, hk, hv with
        | 0, hk, hv =>
          cases hk
          cases hv
          have hcs := cutSuf_fn (X := envX p) (bt' x) { data := #[62] } (by omega) (by decide)
          rw [suf_one, cut_one_end] at hcs
          by_cases hl : x.getLast? = some 62
          · have he : endJ x (0 :: seen) = (5, x.dropLast) := by unfold endJ; simp [hl]
            rw [decide_eq_true hl, if_pos hl] at hcs
            conv => whnf
            (refine st_call hcs ?_ rfl rfl ?_; (focus ((repeat' (first | exact trivial | exact rfl | exact Or.inl rfl | exact Or.inr ⟨rfl, rfl⟩ | refine And.intro ?_ ?_)); done)); conv => whnf)
            refine ⟨rfl, [], ?_⟩
            rw [he]
            (focus ((repeat' (first | exact trivial | exact rfl | exact Or.inl rfl | exact Or.inr ⟨rfl, rfl⟩ | refine And.intro ?_ ?_)); done))
          · have he : endJ x (0 :: seen) = endJ x seen := by unfold endJ; simp [hl]
            rw [decide_eq_false hl, if_neg hl] at hcs
            conv => whnf
            (refine st_call hcs ?_ rfl rfl ?_; (focus ((repeat' (first | exact trivial | exact rfl | exact Or.inl rfl | exact Or.inr ⟨rfl, rfl⟩ | refine And.intro ?_ ?_)); done)); conv => whnf)
            refine ⟨rfl, [], ?_⟩
            rw [he]
            (focus ((repeat' (first | exact trivial | exact rfl | exact Or.inl rfl | exact Or.inr ⟨rfl, rfl⟩ | refine And.intro ?_ ?_)); done))
        | 1, hk, hv =>
          cases hk
          cases hv
          have hcs := cutSuf_fn (X := envX p) (bt' x) { data := #[60] } (by omega) (by decide)
          rw [suf_one, cut_one_end] at hcs
          by_cases hl : x.getLast? = some 60
          · have he : endJ x (1 :: seen) = (6, x.dropLast) := by unfold endJ; simp [hl]
            rw [decide_eq_true hl, if_pos hl] at hcs
            conv => whnf
            (refine st_call hcs ?_ rfl rfl ?_; (focus ((repeat' (first | exact trivial | exact rfl | exact Or.inl rfl | exact Or.inr ⟨rfl, rfl⟩ | refine And.intro ?_ ?_)); done)); conv => whnf)
            refine ⟨rfl, [], ?_⟩
            rw [he]
            (focus ((repeat' (first | exact trivial | exact rfl | exact Or.inl rfl | exact Or.inr ⟨rfl, rfl⟩ | refine And.intro ?_ ?_)); done))
          · have he : endJ x (1 :: seen) = endJ x seen := by unfold endJ; simp [hl]
            rw [decide_eq_false hl, if_neg hl] at hcs
            conv => whnf
            (refine st_call hcs ?_ rfl rfl ?_; (focus ((repeat' (first | exact trivial | exact rfl | exact Or.inl rfl | exact Or.inr ⟨rfl, rfl⟩ | refine And.intro ?_ ?_)); done)); conv => whnf)
            refine ⟨rfl, [], ?_⟩
            rw [he]
            (focus ((repeat' (first | exact trivial | exact rfl | exact Or.inl rfl | exact Or.inr ⟨rfl, rfl⟩ | refine And.intro ?_ ?_)); done))
        | 2, hk, hv =>
          cases hk
          cases hv
          have hcs := cutSuf_fn (X := envX p) (bt' x) { data := #[126] } (by omega) (by decide)
          rw [suf_one, cut_one_end] at hcs
          by_cases hl : x.getLast? = some 126
          · have he : endJ x (2 :: seen) = (8, x.dropLast) := by unfold endJ; simp [hl]
            rw [decide_eq_true hl, if_pos hl] at hcs
            conv => whnf
            (refine st_call hcs ?_ rfl rfl ?_; (focus ((repeat' (first | exact trivial | exact rfl | exact Or.inl rfl | exact Or.inr ⟨rfl, rfl⟩ | refine And.intro ?_ ?_)); done)); conv => whnf)
            refine ⟨rfl, [], ?_⟩
            rw [he]
            (focus ((repeat' (first | exact trivial | exact rfl | exact Or.inl rfl | exact Or.inr ⟨rfl, rfl⟩ | refine And.intro ?_ ?_)); done))
          · have he : endJ x (2 :: seen) = endJ x seen := by unfold endJ; simp [hl]
            rw [decide_eq_false hl, if_neg hl] at hcs
            conv => whnf
            (refine st_call hcs ?_ rfl rfl ?_; (focus ((repeat' (first | exact trivial | exact rfl | exact Or.inl rfl | exact Or.inr ⟨rfl, rfl⟩ | refine And.intro ?_ ?_)); done)); conv => whnf)
            refine ⟨rfl, [], ?_⟩
            rw [he]
            (focus ((repeat' (first | exact trivial | exact rfl | exact Or.inl rfl | exact Or.inr ⟨rfl, rfl⟩ | refine And.intro ?_ ?_)); done))
        | j + 3, hk, hv => simp at hk
      · intro seen _ _ hall
        rw [endJ_all x seen hall]
        refine ⟨[], ?_⟩
        (focus ((repeat' (first | exact trivial | exact rfl | exact Or.inl rfl | exact Or.inr ⟨rfl, rfl⟩ | refine And.intro ?_ ?_)); done))
    · conv => whnf
      have hctn := contains_fn p (bt' y) 42
      rw [bl_of] at hctn
      refine ⟨rfl, cmp_split (fun hK => ?_) (fun hK => ?_)⟩
      · conv => whnf
        refine st_callB hctn ⟨.inl rfl, .inl rfl, trivial⟩ rfl (fun hC => ?_) (fun hC => ?_)
        · conv => whnf
          have hKC : (endK x).1 = 3 ∧ y.contains 42 = true := ⟨hK, hC⟩
          have hsp := split_fn p (bt' y) (by omega) 42
          (refine st_call hsp ?_ rfl rfl ?_; (focus ((repeat' (first | exact trivial | exact rfl | exact Or.inl rfl | exact Or.inr ⟨rfl, rfl⟩ | refine And.intro ?_ ?_)); done)); conv => whnf)
          refine cmp_split (fun hS => ?_) (fun hS => ?_)
          · have hN : y = [42] := by have := congrArg bl hS; rw [bl_of] at this; exact this
            conv => whnf
            refine ⟨rfl, cmp_true rfl ?_⟩
            conv => whnf
            rw [show itR (bl s) = .tup [.v (.agg (cG (.mk 7 (bt' x) (bt' []) [] (bt' []) []))), .v .nili] from by
              unfold itR itemF
              rw [hx]
              dsimp only
              rw [if_pos hKC, if_pos hN]]
            exact ⟨⟨.inr ⟨rfl, rfl⟩, .inl rfl, trivial⟩, rfl⟩
          have hN : ¬ y = [42] := fun e => hS (by rw [e]; rfl)
          conv => whnf
          have hvf := values_fn p (spl 42 (bt' y)) (by rw [spl_len]; have := split_len 42 y; omega) (by intro z hz; have := spl_size 42 y z hz; omega)
          unfold valuesT at hvf
          cases ha : Dn.allM (fun s => readV (bl s)) (spl 42 (bt' y)) with
          | none =>
            rw [ha] at hvf
            dsimp only at hvf
            (refine st_call hvf ?_ rfl rfl ?_; (focus ((repeat' (first | exact trivial | exact rfl | exact Or.inl rfl | exact Or.inr ⟨rfl, rfl⟩ | refine And.intro ?_ ?_)); done)); conv => whnf)
            have hr : itR (bl s) = .tup [.v (.agg (cG f0)), .v (fErr (badAt (spl 42 (bt' y)) : Nat))] := by
              unfold itR errI itemF
              rw [hx]
              dsimp only
              rw [if_pos hKC, if_neg hN, ← allM_spl, ha]
              dsimp only
              rw [if_pos hKC]
            rw [hr]
            exact ⟨⟨.inr ⟨rfl, rfl⟩, .inl rfl, trivial⟩, rfl⟩
          | some vs =>
            rw [ha] at hvf
            dsimp only at hvf
            have hvl := allM_len _ _ _ ha
            cases vs with
            | nil => exact absurd hvl.symm (by rw [spl_len]; intro e; exact Txt.splitOn_ne 42 y (List.eq_nil_of_length_eq_zero e))
            | cons v0 r =>
              have hrl : r.length ≤ 100000000 := by rw [spl_len, List.length_cons] at hvl; have := split_len 42 y; omega
              (refine st_call hvf ?_ rfl rfl ?_; (focus ((repeat' (first | exact trivial | exact rfl | exact Or.inl rfl | exact Or.inr ⟨rfl, rfl⟩ | refine And.intro ?_ ?_)); done)); conv => whnf)
              refine ⟨encS v0, by omega, rfl, rfl, ?_⟩
              conv => whnf
              refine st_minus ((v0 :: r).map encS).length 1 (by simp) (by simp; omega) ?_
              conv => whnf
              have hlv : ((v0 :: r).map encS).length - 1 = r.length := by simp
              rw [hlv]
              refine ⟨rfl, cmp_split (fun h9 => ?_) (fun h9 => ?_)⟩
              · conv => whnf
                refine ⟨some [0, 1, 2, 3, 4, 5, 6, 8, 3007, 9, 10, 11], by kernel_rfl, ?_⟩; conv => whnf
                have hro : r ≠ [] := by rintro rfl; simp at h9
                refine ⟨1, r.length, r.length, rfl, rfl, rfl, by omega, Nat.le_refl _, by simp, fun c hc => ?_, r.dropLast.map encS, ?_, ?_⟩
                · obtain ⟨z, _, rfl⟩ := List.mem_map.1 hc; rfl
                · rw [List.map_cons, List.dropLast_eq_take, List.map_take]
                  cases hr0 : r.length with
                  | zero => omega
                  | succ k => simp
                conv => whnf
                refine st_idx (show r.length < (v0 :: r).length by simp) rfl ?_
                have hge : (v0 :: r)[r.length]'(by simp) = r.getLast?.getD (bt' []) := by
                  rw [List.getLast?_eq_getElem?, List.getElem_cons, dif_neg (by omega), List.getElem?_eq_getElem (by omega)]
                  rfl
                rw [hge]
                conv => whnf
                rw [show itR (bl s) = .tup [.v (.agg (cG (.mk 4 (bt' (endK x).2) v0 r.dropLast (r.getLast?.getD (bt' [])) []))), .v .nili] from by
                  unfold itR itemF
                  rw [hx]
                  dsimp only
                  rw [if_pos hKC, if_neg hN, ← allM_spl, ha, endK3 hK]]
                exact ⟨⟨.inr ⟨rfl, rfl⟩, .inl rfl, trivial⟩, rfl⟩
              · conv => whnf
                have hro : r = [] := List.eq_nil_of_length_eq_zero (by omega)
                subst hro
                rw [show itR (bl s) = .tup [.v (.agg (cG (.mk 4 (bt' (endK x).2) v0 [] (bt' []) []))), .v .nili] from by
                  unfold itR itemF
                  rw [hx]
                  dsimp only
                  rw [if_pos hKC, if_neg hN, ← allM_spl, ha, endK3 hK]
                  rfl]
                exact ⟨⟨.inr ⟨rfl, rfl⟩, .inl rfl, trivial⟩, rfl⟩

        · conv => whnf
          refine cmp_split (fun hS => ?_) (fun hS => ?_)
          · have hN : y = [42] := by have := congrArg bl hS; rw [bl_of] at this; exact this
            rw [hN] at hC; exact absurd hC (by decide)
          conv => whnf
          have hvf := values_fn p [bt' y] (by simp) (by intro z hz; rw [List.mem_singleton.1 hz]; omega)
          unfold valuesT at hvf
          cases ha : Dn.allM (fun s => readV (bl s)) [bt' y] with
          | none =>
            rw [ha] at hvf
            dsimp only at hvf
            (refine st_call hvf ?_ rfl rfl ?_; (focus ((repeat' (first | exact trivial | exact rfl | exact Or.inl rfl | exact Or.inr ⟨rfl, rfl⟩ | refine And.intro ?_ ?_)); done)); conv => whnf)
            have hr : itR (bl s) = .tup [.v (.agg (cG f0)), .v (fErr (badAt [bt' y] : Nat))] := by
              unfold itR errI itemF
              rw [hx]
              dsimp only
              rw [if_neg (fun e => absurd (hC.symm.trans e.2) (by decide)), if_neg (fun e => absurd (hC.symm.trans e.2) (by decide)), read_one y, ha]
              rfl
            rw [hr]
            exact ⟨⟨.inr ⟨rfl, rfl⟩, .inl rfl, trivial⟩, rfl⟩
          | some vs =>
            rw [ha] at hvf
            dsimp only at hvf
            have hvl := allM_len _ _ _ ha
            cases vs with
            | nil => exact absurd hvl.symm (by simp)
            | cons v0 r =>
              have hrl : r.length ≤ 100000000 := by simp at hvl; rw [hvl]; simp
              (refine st_call hvf ?_ rfl rfl ?_; (focus ((repeat' (first | exact trivial | exact rfl | exact Or.inl rfl | exact Or.inr ⟨rfl, rfl⟩ | refine And.intro ?_ ?_)); done)); conv => whnf)
              refine ⟨encS v0, by omega, rfl, rfl, ?_⟩
              conv => whnf
              refine st_minus ((v0 :: r).map encS).length 1 (by simp) (by simp; omega) ?_
              conv => whnf
              have hlv : ((v0 :: r).map encS).length - 1 = r.length := by simp
              rw [hlv]
              refine ⟨rfl, cmp_split (fun h9 => ?_) (fun h9 => ?_)⟩
              · conv => whnf
                refine ⟨some [0, 1, 2, 3, 4, 5, 6, 8, 3007, 9, 10, 11], by kernel_rfl, ?_⟩; conv => whnf
                have hro : r ≠ [] := by rintro rfl; simp at h9
                refine ⟨1, r.length, r.length, rfl, rfl, rfl, by omega, Nat.le_refl _, by simp, fun c hc => ?_, r.dropLast.map encS, ?_, ?_⟩
                · obtain ⟨z, _, rfl⟩ := List.mem_map.1 hc; rfl
                · rw [List.map_cons, List.dropLast_eq_take, List.map_take]
                  cases hr0 : r.length with
                  | zero => omega
                  | succ k => simp
                conv => whnf
                refine st_idx (show r.length < (v0 :: r).length by simp) rfl ?_
                have hge : (v0 :: r)[r.length]'(by simp) = r.getLast?.getD (bt' []) := by
                  rw [List.getLast?_eq_getElem?, List.getElem_cons, dif_neg (by omega), List.getElem?_eq_getElem (by omega)]
                  rfl
                rw [hge]
                conv => whnf
                rw [show itR (bl s) = .tup [.v (.agg (cG (.mk (endK x).1 (bt' (endK x).2) v0 r.dropLast (r.getLast?.getD (bt' [])) []))), .v .nili] from by
                  unfold itR itemF
                  rw [hx]
                  dsimp only
                  simp at hvl
                  exact absurd hvl hro]
                exact ⟨⟨.inr ⟨rfl, rfl⟩, .inl rfl, trivial⟩, rfl⟩
              · conv => whnf
                have hro : r = [] := List.eq_nil_of_length_eq_zero (by omega)
                subst hro
                rw [show itR (bl s) = .tup [.v (.agg (cG (.mk (endK x).1 (bt' (endK x).2) v0 [] (bt' []) []))), .v .nili] from by
                  unfold itR itemF
                  rw [hx]
                  dsimp only
                  rw [if_neg (fun e => absurd (hC.symm.trans e.2) (by decide)), read_one y, ha]
                  rfl]
                exact ⟨⟨.inr ⟨rfl, rfl⟩, .inl rfl, trivial⟩, rfl⟩

      · conv => whnf
        have h4 : (endK x).1 ≠ 4 := by
          unfold endK
          split
          · show (5 : Int) ≠ 4; decide
          split
          · show (6 : Int) ≠ 4; decide
          split
          · show (8 : Int) ≠ 4; decide
          · show (3 : Int) ≠ 4; decide
        refine cmp_split (fun hS => ?_) (fun hS => ?_)
        · conv => whnf
          refine ⟨rfl, cmp_false h4 ?_⟩
          conv => whnf
          have hvf := values_fn p [bt' y] (by simp) (by intro z hz; rw [List.mem_singleton.1 hz]; omega)
          unfold valuesT at hvf
          cases ha : Dn.allM (fun s => readV (bl s)) [bt' y] with
          | none =>
            rw [ha] at hvf
            dsimp only at hvf
            (refine st_call hvf ?_ rfl rfl ?_; (focus ((repeat' (first | exact trivial | exact rfl | exact Or.inl rfl | exact Or.inr ⟨rfl, rfl⟩ | refine And.intro ?_ ?_)); done)); conv => whnf)
            have hr : itR (bl s) = .tup [.v (.agg (cG f0)), .v (fErr (badAt [bt' y] : Nat))] := by
              unfold itR errI itemF
              rw [hx]
              dsimp only
              rw [if_neg (fun e => hK e.1), if_neg (fun e => hK e.1), read_one y, ha]
              rfl
            rw [hr]
            exact ⟨⟨.inr ⟨rfl, rfl⟩, .inl rfl, trivial⟩, rfl⟩
          | some vs =>
            rw [ha] at hvf
            dsimp only at hvf
            have hvl := allM_len _ _ _ ha
            cases vs with
            | nil => exact absurd hvl.symm (by simp)
            | cons v0 r =>
              have hrl : r.length ≤ 100000000 := by simp at hvl; rw [hvl]; simp
              (refine st_call hvf ?_ rfl rfl ?_; (focus ((repeat' (first | exact trivial | exact rfl | exact Or.inl rfl | exact Or.inr ⟨rfl, rfl⟩ | refine And.intro ?_ ?_)); done)); conv => whnf)
              refine ⟨encS v0, by omega, rfl, rfl, ?_⟩
              conv => whnf
              refine st_minus ((v0 :: r).map encS).length 1 (by simp) (by simp; omega) ?_
              conv => whnf
              have hlv : ((v0 :: r).map encS).length - 1 = r.length := by simp
              rw [hlv]
              refine ⟨rfl, cmp_split (fun h9 => ?_) (fun h9 => ?_)⟩
              · conv => whnf
                refine ⟨some [0, 1, 2, 3, 4, 5, 6, 8, 3007, 9, 10, 11], by kernel_rfl, ?_⟩; conv => whnf
                have hro : r ≠ [] := by rintro rfl; simp at h9
                refine ⟨1, r.length, r.length, rfl, rfl, rfl, by omega, Nat.le_refl _, by simp, fun c hc => ?_, r.dropLast.map encS, ?_, ?_⟩
                · obtain ⟨z, _, rfl⟩ := List.mem_map.1 hc; rfl
                · rw [List.map_cons, List.dropLast_eq_take, List.map_take]
                  cases hr0 : r.length with
                  | zero => omega
                  | succ k => simp
                conv => whnf
                refine st_idx (show r.length < (v0 :: r).length by simp) rfl ?_
                have hge : (v0 :: r)[r.length]'(by simp) = r.getLast?.getD (bt' []) := by
                  rw [List.getLast?_eq_getElem?, List.getElem_cons, dif_neg (by omega), List.getElem?_eq_getElem (by omega)]
                  rfl
                rw [hge]
                conv => whnf
                rw [show itR (bl s) = .tup [.v (.agg (cG (.mk (endK x).1 (bt' (endK x).2) v0 r.dropLast (r.getLast?.getD (bt' [])) []))), .v .nili] from by
                  unfold itR itemF
                  rw [hx]
                  dsimp only
                  simp at hvl
                  exact absurd hvl hro]
                exact ⟨⟨.inr ⟨rfl, rfl⟩, .inl rfl, trivial⟩, rfl⟩
              · conv => whnf
                have hro : r = [] := List.eq_nil_of_length_eq_zero (by omega)
                subst hro
                rw [show itR (bl s) = .tup [.v (.agg (cG (.mk (endK x).1 (bt' (endK x).2) v0 [] (bt' []) []))), .v .nili] from by
                  unfold itR itemF
                  rw [hx]
                  dsimp only
                  rw [if_neg (fun e => hK e.1), read_one y, ha]
                  rfl]
                exact ⟨⟨.inr ⟨rfl, rfl⟩, .inl rfl, trivial⟩, rfl⟩

        · conv => whnf
          have hvf := values_fn p [bt' y] (by simp) (by intro z hz; rw [List.mem_singleton.1 hz]; omega)
          unfold valuesT at hvf
          cases ha : Dn.allM (fun s => readV (bl s)) [bt' y] with
          | none =>
            rw [ha] at hvf
            dsimp only at hvf
            (refine st_call hvf ?_ rfl rfl ?_; (focus ((repeat' (first | exact trivial | exact rfl | exact Or.inl rfl | exact Or.inr ⟨rfl, rfl⟩ | refine And.intro ?_ ?_)); done)); conv => whnf)
            have hr : itR (bl s) = .tup [.v (.agg (cG f0)), .v (fErr (badAt [bt' y] : Nat))] := by
              unfold itR errI itemF
              rw [hx]
              dsimp only
              rw [if_neg (fun e => hK e.1), if_neg (fun e => hK e.1), read_one y, ha]
              rfl
            rw [hr]
            exact ⟨⟨.inr ⟨rfl, rfl⟩, .inl rfl, trivial⟩, rfl⟩
          | some vs =>
            rw [ha] at hvf
            dsimp only at hvf
            have hvl := allM_len _ _ _ ha
            cases vs with
            | nil => exact absurd hvl.symm (by simp)
            | cons v0 r =>
              have hrl : r.length ≤ 100000000 := by simp at hvl; rw [hvl]; simp
              (refine st_call hvf ?_ rfl rfl ?_; (focus ((repeat' (first | exact trivial | exact rfl | exact Or.inl rfl | exact Or.inr ⟨rfl, rfl⟩ | refine And.intro ?_ ?_)); done)); conv => whnf)
              refine ⟨encS v0, by omega, rfl, rfl, ?_⟩
              conv => whnf
              refine st_minus ((v0 :: r).map encS).length 1 (by simp) (by simp; omega) ?_
              conv => whnf
              have hlv : ((v0 :: r).map encS).length - 1 = r.length := by simp
              rw [hlv]
              refine ⟨rfl, cmp_split (fun h9 => ?_) (fun h9 => ?_)⟩
              · conv => whnf
                refine ⟨some [0, 1, 2, 3, 4, 5, 6, 8, 3007, 9, 10, 11], by kernel_rfl, ?_⟩; conv => whnf
                have hro : r ≠ [] := by rintro rfl; simp at h9
                refine ⟨1, r.length, r.length, rfl, rfl, rfl, by omega, Nat.le_refl _, by simp, fun c hc => ?_, r.dropLast.map encS, ?_, ?_⟩
                · obtain ⟨z, _, rfl⟩ := List.mem_map.1 hc; rfl
                · rw [List.map_cons, List.dropLast_eq_take, List.map_take]
                  cases hr0 : r.length with
                  | zero => omega
                  | succ k => simp
                conv => whnf
                refine st_idx (show r.length < (v0 :: r).length by simp) rfl ?_
                have hge : (v0 :: r)[r.length]'(by simp) = r.getLast?.getD (bt' []) := by
                  rw [List.getLast?_eq_getElem?, List.getElem_cons, dif_neg (by omega), List.getElem?_eq_getElem (by omega)]
                  rfl
                rw [hge]
                conv => whnf
                rw [show itR (bl s) = .tup [.v (.agg (cG (.mk (endK x).1 (bt' (endK x).2) v0 r.dropLast (r.getLast?.getD (bt' [])) []))), .v .nili] from by
                  unfold itR itemF
                  rw [hx]
                  dsimp only
                  simp at hvl
                  exact absurd hvl hro]
                exact ⟨⟨.inr ⟨rfl, rfl⟩, .inl rfl, trivial⟩, rfl⟩
              · conv => whnf
                have hro : r = [] := List.eq_nil_of_length_eq_zero (by omega)
                subst hro
                rw [show itR (bl s) = .tup [.v (.agg (cG (.mk (endK x).1 (bt' (endK x).2) v0 [] (bt' []) []))), .v .nili] from by
                  unfold itR itemF
                  rw [hx]
                  dsimp only
                  rw [if_neg (fun e => hK e.1), read_one y, ha]
                  rfl]
                exact ⟨⟨.inr ⟨rfl, rfl⟩, .inl rfl, trivial⟩, rfl⟩

end Go.Proofs.YtiafggoaedifdaaGreatDoor.Fi
