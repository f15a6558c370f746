/- Several texts, one behind the other. dn: a text's next sign (end). Conditions: at most 10^9 bytes; the sign is no backslash. dn: the walk over a text's pieces. Conditions: at most 10^9 bytes; the sign is no backslash. dn, plain: texts in which a sign stands only behind backslashes; printed values are such. dn, plain: a printed value, read, is that value. slices.EqualFunc at []api.Rdn: two lists, one by one. Conditions: both read as they lie; what the function that is handed in answers of each two. Contracts of functions of Go's library, as the kit's shelf proves them of whatever program, at this program's numbers. Each states its own conditions. Contracts of functions of Go's library, as the kit's shelf proves them of whatever program, at this program's numbers. Each states its own conditions. dn: which names are right, the same, under each other (isAva, Right, isSame, Same, IsUnder). Conditions: the names read as they lie. dn.part: the part of a piece. Conditions: at most 10^6 bytes; the package-level variables of Env. dn, plain: a printed part, read, is that part. -/
import Derived.Test.YtjmpkbmgcbalkaaGreatDoorT22
import Derived.Test.YtjmpkbmgcbalkaaGreatDoorT06
import Derived.Test.YtjmpkbmgcbalkaaGreatDoorT14
import Derived.Test.YtjmpkbmgcbalkaaGreatDoorT18
import Derived.Test.YtjmpkbmgcbalkaaGreatDoorT20
import Derived.Test.YtjmpkbmgcbalkaaGreatDoorT11
import Derived.Deep.LoopGhost
import Derived.Outline
import Derived.Shelf.SlicesQ.IndexFunc
import Derived.Test.YtjmpkbmgcbalkaaGreatDoorProg
import Derived.Deep.QuietTactic
import Derived.BigQuiet
/- dn: a text's next sign (end). Conditions: at most 10^9 bytes; the sign is no backslash. -/
namespace Go.Proofs.YtjmpkbmgcbalkaaGreatDoor.Dn
open Go.RowKit
set_option linter.unusedVariables false
/-- how many bytes stand ahead of the next sign, but behind a backslash -/
def endL (c : UInt8) : List UInt8 → Nat
  | [] => 0
  | [b] => if b = 92 then 1 else if b = c then 0 else 1
  | b :: x :: t => if b = 92 then 2 + endL c t else if b = c then 0 else 1 + endL c (x :: t)
theorem endL_esc (c x : UInt8) (t : List UInt8) : endL c (92 :: x :: t) = 2 + endL c t := by rw [endL, if_pos rfl]
theorem endL_esc_end (c : UInt8) : endL c [92] = 1 := by rw [endL, if_pos rfl]
theorem endL_hit (c : UInt8) (hc : c ≠ 92) (t : List UInt8) : endL c (c :: t) = 0 := by
  cases t with
  | nil => rw [endL, if_neg hc, if_pos rfl]
  | cons x t => rw [endL, if_neg hc, if_pos rfl]
theorem endL_other (c b : UInt8) (h1 : b ≠ 92) (h2 : b ≠ c) (t : List UInt8) : endL c (b :: t) = 1 + endL c t := by
  cases t with
  | nil => simp [endL, h1, h2]
  | cons x t => rw [endL, if_neg h1, if_neg h2]
theorem endL_le (c : UInt8) : ∀ l : List UInt8, endL c l ≤ l.length
  | [] => Nat.le_refl _
  | [b] => by rw [endL]; split <;> (try split) <;> simp
  | b :: x :: t => by
    have h1 := endL_le c t
    have h2 := endL_le c (x :: t)
    rw [endL]
    simp only [List.length_cons] at h2 ⊢
    split
    · omega
    · split <;> omega
set_option maxHeartbeats 4000000 in
theorem end_calls (s : ByteArray) (hs : s.size ≤ 1000000000) (a : Nat) (ha : a ≤ s.size) (c : UInt8) (hc : c ≠ 92) (w : World) :
    Calls Tryz.prog 82 #[.agg #[.string s], .int .i64 a, .int .u8 c.toNat] w fun e w' => e = .returned (.int .i64 ((a + endL c (s.data.toList.drop a) : Nat) : Int)) ∧ Below w.heap.size w w' := by
  obtain ⟨N, hN⟩ : ∃ N, a + endL c (s.data.toList.drop a) = N := ⟨_, rfl⟩
  rw [hN]
  have HN := Aside.mk hN
  have HSL := Aside.mk (Txt.size_list s)
  obtain ⟨W1, hW1⟩ : ∃ W1, w.alloc (.cells #[.string s] 78) = W1 := ⟨_, rfl⟩
  have c0 : W1.cell? ⟨w.heap.size, 0, none⟩ = some (.string s) := by rw [← hW1]; exact cell_new w _ _ _ 0 rfl
  have HB := Aside.mk (show Below w.heap.size w W1 by rw [← hW1]; exact below_new _ _)
  clear hN
  go_enter Tryz.func82, Tryz.ntmps82
  go_wp2_with fail
  clear hW1
  go_loopg [7] (s.size + 1) (fun gk v7 wr => ∃ (i : Nat), v7 = .int .i64 i ∧ wr = W1 ∧ Aside (s.size + 1 ≤ i + gk ∧ a ≤ i ∧ ((i ≤ s.size ∧ i + endL c (s.data.toList.drop i) = N) ∨ (i = s.size + 1 ∧ N = s.size))))
  case atStart => exact ⟨a, rfl, rfl, ⟨by omega, Nat.le_refl _, .inl ⟨ha, HN.out⟩⟩⟩
  case round =>
    obtain ⟨i, rfl, rfl, HI⟩ := hrel
    obtain ⟨i1, i2, i3⟩ := HI.out
    clear HI
    by_cases hi : i < s.size
    · obtain ⟨m, rfl⟩ : ∃ m, gk = m + 1 := ⟨gk - 1, by omega⟩
      have hii : (i : Int) < (s.size : Int) := by omega
      have hi0 : (0 : Int) ≤ (i : Int) := by omega
      have hin : i + endL c (s.data.toList.drop i) = N := by
        rcases i3 with ⟨_, h⟩ | ⟨h, _⟩
        · exact h
        · omega
      clear i3
      rw [Txt.drop_cons s i hi] at hin
      have hidx : ∀ W : World, (Instr.index 9 (.string s) (.int .i64 (i : Int))).run Tryz.prog W = .ok (.int .u8 s[i].toNat) W := by
        intro W; go_simp
      generalize s[i] = b at hin hidx
      by_cases h92 : b = 92
      · subst h92
        have HX := Aside.mk (show (i + 1 + 1 ≤ s.size ∧ (i + 1 + 1) + endL c (s.data.toList.drop (i + 1 + 1)) = N) ∨ (i + 1 + 1 = s.size + 1 ∧ N = s.size) by
          by_cases hl : i + 1 < s.size
          · rw [Txt.drop_cons s (i + 1) hl, endL_esc] at hin
            exact .inl ⟨by omega, by omega⟩
          · rw [List.drop_eq_nil_of_le (by rw [HSL.out]; omega), endL_esc_end] at hin
            exact .inr ⟨by omega, by omega⟩)
        clear hin
        go_wp2
        go_roundg m
        case measure => omega
        case rel => exact ⟨i + 1 + 1, by go_num, rfl, ⟨by omega, by omega, HX.out⟩⟩
      · have hb92 : ((b.toNat : Int) == 92) = false := by
          rw [beq_eq_false_iff_ne]
          intro h; apply h92
          rw [← UInt8.toNat_inj]
          have : (92 : UInt8).toNat = 92 := rfl
          omega
        by_cases hbc : b = c
        · subst hbc
          have HX := Aside.mk (show i = N by rw [endL_hit _ h92] at hin; exact hin)
          clear hin h92
          go_wp2
          go_ret
          exact ⟨by rw [← HX.out]; rfl, HB.out⟩
        · have hbc2 : ((b.toNat : Int) == (c.toNat : Int)) = false := by
            rw [beq_eq_false_iff_ne]
            intro h; apply hbc
            rw [← UInt8.toNat_inj]
            omega
          have HX := Aside.mk (show (i + 1) + endL c (s.data.toList.drop (i + 1)) = N by rw [endL_other c b h92 hbc] at hin; omega)
          clear hin h92 hbc
          go_wp2
          go_roundg m
          case measure => omega
          case rel => exact ⟨i + 1, by go_num, rfl, ⟨by omega, by omega, .inl ⟨by omega, HX.out⟩⟩⟩
    · have hi2 : (s.size : Int) ≤ (i : Int) := by omega
      have HX := Aside.mk (show s.size = N by
        rcases i3 with ⟨h1, h2⟩ | ⟨h1, h2⟩
        · rw [List.drop_eq_nil_of_le (by rw [HSL.out]; omega), endL] at h2
          omega
        · exact h2.symm)
      clear hi i3
      go_wp2
      go_ret
      exact ⟨by rw [← HX.out]; rfl, HB.out⟩
end Go.Proofs.YtjmpkbmgcbalkaaGreatDoor.Dn
/- dn: the walk over a text's pieces. Conditions: at most 10^9 bytes; the sign is no backslash. -/
namespace Go.Proofs.YtjmpkbmgcbalkaaGreatDoor.Dn
open Go.RowKit
set_option linter.unusedVariables false
def piecesF (c : UInt8) : Nat → List UInt8 → List (List UInt8)
  | 0, l => [l]
  | f + 1, l => if endL c l = l.length then [l] else l.take (endL c l) :: piecesF c f (l.drop (endL c l + 1))
/-- a text's pieces -/
def piecesL (c : UInt8) (l : List UInt8) : List (List UInt8) := piecesF c (l.length + 1) l
theorem pieces_maker (s : ByteArray) (c : UInt8) (w : World) :
    Calls Tryz.prog 59 #[.agg #[.string s, .int .u8 c.toNat]] w fun e w' => e = .returned (.func (.func 81) #[] #[.pointer (some ⟨w.heap.size, 0, none⟩)]) ∧ w.alloc (.cells #[.string s, .int .u8 c.toNat] 80) = w' := by
  go_enter Tryz.func59, Tryz.ntmps59
  go_wp2
  go_ret
  exact ⟨rfl, rfl⟩
attribute [local go_sem] Oper.semAt_some
set_option maxHeartbeats 4000000 in
theorem pieces_iter {l0 Cx Co : Nat} {s : ByteArray} {c : UInt8} (hs : s.size ≤ 100000000) (hc : c ≠ 92) (J : List (List UInt8) → World → Prop) (Stop : World → Prop)
    (hJx : ∀ pre W, J pre W → W.cell? ⟨Cx, Co, none⟩ = some (.string s) ∧ W.cell? ⟨Cx, Co + 1, none⟩ = some (.int .u8 c.toNat)) (hJb : ∀ pre W W', J pre W → Below W.heap.size W W' → J pre W')
    (hY : ∀ pre (y : ByteArray) rest W, piecesL c s.data.toList = pre ++ y.data.toList :: rest → y.size ≤ s.size → J pre W → ∃ fn tmps assign body, (Instr.yield l0 #[.string y]).run Tryz.prog W = .ok (.round l0 fn tmps assign body) W ∧ RoundIn Fence.wide 0 Tryz.prog l0 fn tmps assign body W (fun e W' => (e = .returned (.bool true) ∧ J (pre ++ [y.data.toList]) W') ∨ (e = .returned (.bool false) ∧ Stop W')))
    (W : World) (h0 : J [] W) :
    Calls Tryz.prog 81 #[.func (.yield l0) #[] #[], .pointer (some ⟨Cx, Co, none⟩)] W fun e W' => (∃ v, e = .returned v) ∧ (J (piecesL c s.data.toList) W' ∨ Stop W') := by
  have HSL := Aside.mk (Txt.size_list s)
  go_enter Tryz.func81, Tryz.ntmps81
  go_wp2
  go_step3
  go_wp2
  go_step3
  go_wp2
  go_loopg [3] (s.size + 1) (fun gk v3 wr => ∃ a : Nat, v3 = .int .i64 a ∧ Aside (∃ pre, a ≤ s.size ∧ s.size + 1 ≤ a + gk ∧ J pre wr ∧ piecesL c s.data.toList = pre ++ piecesF c gk (s.data.toList.drop a)))
  case atStart => exact ⟨0, rfl, ⟨[], by omega, by omega, h0, by unfold piecesL; rw [HSL.out]; rfl⟩⟩
  case round =>
    obtain ⟨a, rfl, HI⟩ := hrel
    obtain ⟨pre, i1, i2, i3, i4⟩ := HI.out
    clear HI
    obtain ⟨m, rfl⟩ : ∃ m, gk = m + 1 := ⟨gk - 1, by omega⟩
    obtain ⟨c0, c1⟩ := hJx _ _ i3
    have HJ := Aside.mk i3
    clear i3
    obtain ⟨n, hn⟩ : ∃ n, endL c (s.data.toList.drop a) = n := ⟨_, rfl⟩
    have hnl : n ≤ s.size - a := by
      have := endL_le c (s.data.toList.drop a)
      rw [List.length_drop, HSL.out, hn] at this
      exact this
    obtain ⟨t, ht⟩ : ∃ t, a + n = t := ⟨_, rfl⟩
    have htS : t ≤ s.size := by omega
    have HEN := Aside.mk (show Calls Tryz.prog 82 #[.agg #[.string s], .int .i64 a, .int .u8 c.toNat] wr fun e w' => e = .returned (.int .i64 (t : Int)) ∧ Below wr.heap.size wr w' by
      have := end_calls s (by omega) a i1 c hc wr
      rwa [hn, ht] at this)
    have hex : (s.extract a t).data.toList = (s.data.toList.drop a).take n := by
      rw [Lib.extract_data, show t - a = n by omega]
    have hsz : (s.extract a t).size ≤ s.size := by rw [ByteArray.size_extract]; omega
    have HP := Aside.mk (show piecesL c s.data.toList = pre ++ (s.extract a t).data.toList :: (if t = s.size then [] else piecesF c m (s.data.toList.drop (t + 1))) by
      rw [i4, piecesF, hn, hex, List.length_drop, HSL.out]
      by_cases ht2 : t = s.size
      · rw [if_pos (by omega), if_pos ht2, List.take_of_length_le (by rw [List.length_drop, HSL.out]; omega)]
      · rw [if_neg (by omega), if_neg ht2, List.drop_drop, show a + (n + 1) = t + 1 by omega])
    have h0a : (0 : Int) ≤ (a : Int) := by omega
    have hat : (a : Int) ≤ (t : Int) := by omega
    have hts : (t : Int) ≤ (s.size : Int) := by omega
    have HSZ := Aside.mk hsz
    clear i4 hn hex hnl hsz
    obtain ⟨y, hy⟩ : ∃ y, s.extract a t = y := ⟨_, rfl⟩
    rw [hy] at HP HSZ
    refine (wpIn_wide (n := 1)).1 ?_
    gi_wp2_with fail
    refine ⟨trivial, callsIn_wide.2 (HEN.out.mono ?_)⟩
    rintro e w2 ⟨rfl, hb⟩
    have HJ2 := Aside.mk (hJb _ _ _ HJ.out hb)
    obtain ⟨d0, d1⟩ := hJx _ _ HJ2.out
    obtain ⟨fn, tm, asg, bo, hyy, hR⟩ := hY _ y _ w2 HP.out HSZ.out HJ2.out
    have HRR := Aside.mk hR
    clear hR hb c0 c1
    gi_wp2_with fail
    refine HRR.out.mono ?_
    rintro e w3 (⟨rfl, hj3⟩ | ⟨rfl, hst⟩)
    · have HJ3 := Aside.mk hj3
      obtain ⟨e0, e1⟩ := hJx _ _ HJ3.out
      clear hj3 hyy d0 d1
      by_cases htt : t = s.size
      · have hti : ((t : Int) == (s.size : Int)) = true := by simp [htt]
        have HF := Aside.mk (show J (piecesL c s.data.toList) w3 by rw [HP.out, if_pos htt]; exact HJ3.out)
        clear htt
        gi_wp2
        rw [Exit.noGoto_normal]
        go_end0
        exact ⟨⟨_, rfl⟩, .inl HF.out⟩
      · have hti : ((t : Int) == (s.size : Int)) = false := by rw [beq_eq_false_iff_ne]; omega
        have HF := Aside.mk (show piecesL c s.data.toList = (pre ++ [y.data.toList]) ++ piecesF c m (s.data.toList.drop (t + 1)) by rw [HP.out, if_neg htt]; simp)
        have HLT := Aside.mk (show t + 1 ≤ s.size by omega)
        clear htt
        gi_wp2
        go_roundg m
        case measure => omega
        case rel => exact ⟨t + 1, by go_num, ⟨pre ++ [y.data.toList], HLT.out, by omega, HJ3.out, HF.out⟩⟩
    · have HS := Aside.mk hst
      clear hst hyy d0 d1
      gi_wp2
      rw [Exit.noGoto_normal]
      go_end0
      exact ⟨⟨_, rfl⟩, .inr HS.out⟩
end Go.Proofs.YtjmpkbmgcbalkaaGreatDoor.Dn
/- dn, plain: texts in which a sign stands only behind backslashes; printed values are such. -/
namespace Go.Proofs.YtjmpkbmgcbalkaaGreatDoor.Dn
set_option linter.unusedVariables false
/-- no sign stands in it but behind a backslash, and it does not end with one -/
def closedL (c : UInt8) : List UInt8 → Bool
  | [] => true
  | [b] => b != 92 && b != c
  | b :: x :: t => if b = 92 then closedL c t else b != c && closedL c (x :: t)
theorem closed_esc (c x : UInt8) (t : List UInt8) : closedL c (92 :: x :: t) = closedL c t := by rw [closedL, if_pos rfl]
theorem closed_other (c b : UInt8) (h1 : b ≠ 92) (h2 : b ≠ c) (t : List UInt8) : closedL c (b :: t) = closedL c t := by
  cases t with
  | nil => simp [closedL, h1, h2]
  | cons x t => simp [closedL, h1, h2]
theorem closed_append (c : UInt8) : ∀ x y : List UInt8, closedL c x = true → closedL c (x ++ y) = closedL c y
  | [], y, _ => rfl
  | [b], y, h => by
    simp only [closedL, Bool.and_eq_true, bne_iff_ne] at h
    exact closed_other c b h.1 h.2 y
  | b :: x :: t, y, h => by
    rw [closedL] at h
    by_cases hb : b = 92
    · subst hb
      rw [if_pos rfl] at h
      rw [List.cons_append, List.cons_append, closed_esc]
      exact closed_append c t y h
    · rw [if_neg hb] at h
      simp only [Bool.and_eq_true, bne_iff_ne] at h
      rw [List.cons_append, closed_other c b hb h.1]
      exact closed_append c (x :: t) y h.2
theorem endL_append (c : UInt8) : ∀ x y : List UInt8, closedL c x = true → endL c (x ++ y) = x.length + endL c y
  | [], y, _ => by simp
  | [b], y, h => by
    simp only [closedL, Bool.and_eq_true, bne_iff_ne] at h
    exact endL_other c b h.1 h.2 y
  | b :: x :: t, y, h => by
    rw [closedL] at h
    by_cases hb : b = 92
    · subst hb
      rw [if_pos rfl] at h
      rw [List.cons_append, List.cons_append, endL_esc, endL_append c t y h]
      simp only [List.length_cons]; omega
    · rw [if_neg hb] at h
      simp only [Bool.and_eq_true, bne_iff_ne] at h
      rw [List.cons_append, endL_other c b hb h.1, endL_append c (x :: t) y h.2]
      simp only [List.length_cons]; omega
theorem endL_closed (c : UInt8) (x : List UInt8) (h : closedL c x = true) : endL c x = x.length := by
  have := endL_append c x [] h
  rwa [List.append_nil, endL, Nat.add_zero] at this
/-- pieces, with the sign between -/
def joinC (c : UInt8) : List (List UInt8) → List UInt8
  | [] => []
  | [x] => x
  | x :: y :: t => x ++ c :: joinC c (y :: t)
theorem piecesF_join (c : UInt8) (hc : c ≠ 92) : ∀ (l : List (List UInt8)) (f : Nat), l ≠ [] → l.length ≤ f → (∀ x ∈ l, closedL c x = true) → piecesF c f (joinC c l) = l
  | [], f, h, _, _ => absurd rfl h
  | [x], 0, _, h, _ => by simp at h
  | [x], f + 1, _, _, h => by
    rw [joinC, piecesF, if_pos (endL_closed c x (h x (by simp)))]
  | x :: y :: t, 0, _, h, _ => by simp at h
  | x :: y :: t, f + 1, _, hf, h => by
    have hx := h x (by simp)
    have he : endL c (x ++ c :: joinC c (y :: t)) = x.length := by rw [endL_append c x _ hx, endL_hit c hc, Nat.add_zero]
    rw [joinC, piecesF, he, if_neg (by simp), List.take_left']
    · rw [List.drop_append, List.drop_eq_nil_of_le (by omega), show x.length + 1 - x.length = 1 by omega, List.nil_append, List.drop_succ_cons, List.drop_zero]
      rw [piecesF_join c hc (y :: t) f (by simp) (by simp at hf ⊢; omega) (fun z hz => h z (by simp at hz ⊢; exact .inr hz))]
    · rfl
theorem join_len (c : UInt8) : ∀ l : List (List UInt8), l.length ≤ (joinC c l).length + 1
  | [] => by simp
  | [x] => by simp
  | x :: y :: t => by
    have := join_len c (y :: t)
    rw [joinC]
    simp only [List.length_append, List.length_cons] at this ⊢
    omega
theorem pieces_join (c : UInt8) (hc : c ≠ 92) (l : List (List UInt8)) (h : l ≠ []) (hx : ∀ x ∈ l, closedL c x = true) : piecesL c (joinC c l) = l :=
  piecesF_join c hc l _ h (join_len c l) hx
theorem hex_closed (c : UInt8) (hc : Esc.signs7.contains c = true) (n : Nat) (hn : n < 16) : Code.hexD n ≠ 92 ∧ Code.hexD n ≠ c := by
  have all : ∀ m : Fin 16, ∀ x ∈ Esc.signs7, Code.hexD m.1 ≠ 92 ∧ Code.hexD m.1 ≠ x := by decide
  exact all ⟨n, hn⟩ c (List.contains_iff_mem.1 hc)
/-- a byte of a printed value is closed -/
theorem outB_closed (c : UInt8) (hc : Esc.signs7.contains c = true) (n k : Nat) (b : UInt8) : closedL c (Esc.outB (Esc.nameR n) k b) = true := by
  unfold Esc.outB
  cases hd : (Esc.nameR n k b).2 with
  | true =>
    have h2 := hex_closed c hc (b.toNat % 16) (Nat.mod_lt _ (by decide))
    simp only [Bool.or_true, if_true, Code.hexB, List.cons_append, List.nil_append]
    rw [closed_esc]
    simp only [closedL, Bool.and_eq_true, bne_iff_ne]
    exact h2
  | false =>
    cases hs : (Esc.nameR n k b).1 with
    | true => simp [closedL]
    | false =>
      have h7 : Esc.signs7.contains b = false := by
        have : (Esc.nameR n k b).1 = ((k == 0 && Esc.first2.contains b) || (k + 1 == n && b == 32) || Esc.signs7.contains b) := rfl
        rw [hs] at this
        cases h : Esc.signs7.contains b with
        | false => rfl
        | true => rw [h] at this; simp at this
      simp only [Bool.or_false, Bool.false_eq_true, if_false, List.nil_append, closedL, Bool.and_eq_true, bne_iff_ne]
      refine ⟨?_, ?_⟩
      · rintro rfl; simp [Esc.signs7] at h7
      · rintro rfl; rw [hc] at h7; cases h7
theorem outF_closed (c : UInt8) (hc : Esc.signs7.contains c = true) (n : Nat) : ∀ (l : List UInt8) (k : Nat), closedL c (Esc.outF (Esc.nameR n) k l) = true
  | [], k => rfl
  | b :: t, k => by
    rw [Esc.outF, closed_append c _ _ (outB_closed c hc n k b)]
    exact outF_closed c hc n t (k + 1)
end Go.Proofs.YtjmpkbmgcbalkaaGreatDoor.Dn
/- dn, plain: a printed value, read, is that value. -/
namespace Go.Proofs.YtjmpkbmgcbalkaaGreatDoor.Dn
open Go.Lib
set_option linter.unusedVariables false
theorem utfR_ascii (s : ByteArray) (h : ∀ b ∈ s.data.toList, b.toNat < 128) : ∀ f pos, Utf.utfR s f pos = true
  | 0, _ => rfl
  | f + 1, pos => by
    rw [Utf.utfR]
    by_cases hp : pos < s.size
    · have hb : s[pos].toNat < 128 := h _ (by
        have : s.data.toList[pos]? = some s[pos] := by
          rw [Array.getElem?_toList]
          exact Array.getElem?_eq_getElem hp
        exact List.mem_of_getElem? this)
      rw [if_pos hp, decode_ascii s pos hp hb]
      have hn : (s[pos].toNat == 65533) = false := by rw [beq_eq_false_iff_ne]; omega
      simp only [hn, Bool.false_and, Bool.false_eq_true, if_false]
      exact utfR_ascii s h f _
    · rw [if_neg hp]
theorem utf_ascii (s : ByteArray) (h : ∀ b ∈ s.data.toList, b.toNat < 128) : Utf.utfB s = true := utfR_ascii s h _ _
theorem hex_plain : ∀ m : Fin 16, Esc.plainB (Code.hexD m.1) = true := by decide
theorem outB_plain (n k : Nat) (b : UInt8) : (Esc.outB (Esc.nameR n) k b).all Esc.plainB = true := by
  unfold Esc.outB
  have h92 : Esc.plainB 92 = true := by decide
  cases hd : (Esc.nameR n k b).2 with
  | true =>
    have h1 := hex_plain ⟨b.toNat / 16, by have := b.toNat_lt; omega⟩
    have h2 := hex_plain ⟨b.toNat % 16, Nat.mod_lt _ (by decide)⟩
    dsimp only at h1 h2
    simp [Code.hexB, h92, h1, h2]
  | false =>
    have hp : Esc.plainB b = true := by
      have : (Esc.nameR n k b).2 = !Esc.plainB b := rfl
      rw [hd] at this
      simpa using this.symm
    cases hs : (Esc.nameR n k b).1 <;> simp [h92, hp]
theorem outF_plain (n : Nat) : ∀ (l : List UInt8) (k : Nat), (Esc.outF (Esc.nameR n) k l).all Esc.plainB = true
  | [], _ => rfl
  | b :: t, k => by rw [Esc.outF, List.all_append, outB_plain, outF_plain n t (k + 1)]; rfl
set_option maxRecDepth 100000 in
theorem unhex_hex : ∀ b : UInt8, Code.unhex2 (Code.hexB b) = some [b] := by
  have all : ∀ m : Fin 256, Code.unhex2 (Code.hexB (UInt8.ofNat m.1)) = some [UInt8.ofNat m.1] := by decide
  intro b
  have := all ⟨b.toNat, b.toNat_lt⟩
  simpa using this
theorem hex_nosign : ∀ m : Fin 16, Esc.signs10.contains (Code.hexD m.1) = false := by decide
theorem at_drop (s : ByteArray) (p : Nat) (b : UInt8) (t : List UInt8) (h : s.data.toList.drop p = b :: t) : ∃ hp : p < s.size, s[p] = b ∧ s.data.toList.drop (p + 1) = t := by
  have hp : p < s.size := by
    rcases Nat.lt_or_ge p s.size with h1 | h1
    · exact h1
    · rw [List.drop_eq_nil_of_le (by rw [Txt.size_list]; omega)] at h; cases h
  rw [Txt.drop_cons s p hp] at h
  injection h with h1 h2
  exact ⟨hp, h1, h2⟩
theorem outB_ne (n k : Nat) (b : UInt8) : 1 ≤ (Esc.outB (Esc.nameR n) k b).length := by
  unfold Esc.outB
  cases (Esc.nameR n k b).1 <;> cases (Esc.nameR n k b).2 <;> simp [Code.hexB]
theorem outF_ge (n : Nat) : ∀ (l : List UInt8) (k : Nat), l.length ≤ (Esc.outF (Esc.nameR n) k l).length
  | [], _ => Nat.le_refl _
  | b :: t, k => by
    have := outF_ge n t (k + 1)
    have := outB_ne n k b
    rw [Esc.outF, List.length_append, List.length_cons]; omega
theorem read_step (s : ByteArray) (n : Nat) : ∀ (v2 v1 : List UInt8) (p f : Nat), n = v1.length + v2.length → (v1 = [] → p = 0) → v1.length ≤ p → v2.length ≤ f → s.data.toList.drop p = Esc.outF (Esc.nameR n) v1.length v2 → Esc.readR true s f p v1 = some (v1 ++ v2)
  | [], v1, p, f, _, _, _, _, h => by
    rw [Esc.outF] at h
    have hp : ¬ p < s.size := by
      intro hp
      rw [Txt.drop_cons s p hp] at h; cases h
    cases f with
    | zero => simp [Esc.readR]
    | succ f => simp [Esc.readR, hp]
  | b :: t, v1, p, 0, _, _, _, hf, _ => by simp at hf
  | b :: t, v1, p, f + 1, hn, h0, hp, hf, h => by
    have hf' : t.length ≤ f := by simpa using hf
    have hlen : (v1 ++ [b]).length = v1.length + 1 := by simp
    have hn' : n = (v1 ++ [b]).length + t.length := by rw [hlen]; simp at hn; omega
    have e2 : v1 ++ b :: t = (v1 ++ [b]) ++ t := by simp
    rw [Esc.outF, Esc.outB] at h
    rw [e2]
    cases hd : (Esc.nameR n v1.length b).2 with
    | true =>
      rw [hd] at h
      simp only [Bool.or_true, if_true, Code.hexB, List.cons_append, List.nil_append] at h
      obtain ⟨p0, q0, r0⟩ := at_drop s p _ _ h
      obtain ⟨p1, q1, r1⟩ := at_drop s (p + 1) _ _ r0
      obtain ⟨p2, q2, r2⟩ := at_drop s (p + 1 + 1) _ _ r1
      have hns := hex_nosign ⟨b.toNat / 16, by have := b.toNat_lt; omega⟩
      have hsg : Esc.signAt true s (p + 1) = some (b, p + 1 + 2) := by
        have htw : Esc.two s (p + 1) = Code.hexB b := by
          unfold Esc.two
          rw [r0]; rfl
        unfold Esc.signAt Esc.digitAt
        rw [dif_pos p1, q1, Bool.true_and, if_neg (by rw [hns]; decide), htw, unhex_hex]
        rfl
      rw [Esc.readR, dif_pos p0, q0, if_pos (by decide), hsg]
      exact read_step s n t (v1 ++ [b]) (p + 1 + 2) f hn' (fun e => by simp at e) (by rw [hlen]; omega) hf' (by rw [hlen]; exact r2)
    | false =>
      rw [hd] at h
      cases hs : (Esc.nameR n v1.length b).1 with
      | true =>
        rw [hs] at h
        simp only [Bool.or_false, if_true, Bool.false_eq_true, if_false, List.cons_append, List.nil_append] at h
        obtain ⟨p0, q0, r0⟩ := at_drop s p _ _ h
        obtain ⟨p1, q1, r1⟩ := at_drop s (p + 1) _ _ r0
        have h10 : Esc.signs10.contains b = true := by
          have hx : ((v1.length == 0 && Esc.first2.contains b) || (v1.length + 1 == n && b == 32) || Esc.signs7.contains b) = true := hs
          simp only [Bool.or_eq_true, Bool.and_eq_true, List.contains_iff_mem, beq_iff_eq, Esc.first2, Esc.signs7, List.mem_cons, List.not_mem_nil, or_false] at hx
          simp only [List.contains_iff_mem, Esc.signs10, List.mem_cons, List.not_mem_nil, or_false]
          rcases hx with (⟨_, rfl | rfl⟩ | ⟨_, rfl⟩) | rfl | rfl | rfl | rfl | rfl | rfl | rfl <;> simp
        have hsg : Esc.signAt true s (p + 1) = some (b, p + 1 + 1) := by
          unfold Esc.signAt
          rw [dif_pos p1, q1, Bool.true_and, if_pos h10]
        rw [Esc.readR, dif_pos p0, q0, if_pos (by decide), hsg]
        exact read_step s n t (v1 ++ [b]) (p + 1 + 1) f hn' (fun e => by simp at e) (by rw [hlen]; omega) hf' (by rw [hlen]; exact r1)
      | false =>
        rw [hs] at h
        simp only [Bool.or_false, Bool.false_eq_true, if_false, List.cons_append, List.nil_append] at h
        obtain ⟨p0, q0, r0⟩ := at_drop s p _ _ h
        have hx : ((v1.length == 0 && Esc.first2.contains b) || (v1.length + 1 == n && b == 32) || Esc.signs7.contains b) = false := hs
        simp only [Bool.or_eq_false_iff] at hx
        obtain ⟨⟨x1, x2⟩, x3⟩ := hx
        have hb92 : ¬ (b == 92) = true := by
          intro e; rw [beq_iff_eq] at e; subst e; simp [Esc.signs7] at x3
        have hbar : Esc.barB true s.size p b = false := by
          have y1 : (p == 0 && Esc.first2.contains b) = false := by
            rcases Nat.eq_zero_or_pos v1.length with h1 | h1
            · rw [h1] at x1; rw [h0 (List.eq_nil_of_length_eq_zero h1)]; exact x1
            · have : (p == 0) = false := by rw [beq_eq_false_iff_ne]; omega
              rw [this]; rfl
          have y2 : (p + 1 == s.size && b == 32) = false := by
            cases t with
            | nil =>
              have : (v1.length + 1 == n) = true := by rw [beq_iff_eq]; simp at hn; omega
              rw [this, Bool.true_and] at x2
              rw [x2, Bool.and_false]
            | cons z t =>
              have hl := congrArg List.length r0
              have hg := outF_ge n (z :: t) (v1.length + 1)
              rw [List.length_drop, Txt.size_list] at hl
              simp only [List.length_cons] at hg
              have : (p + 1 == s.size) = false := by rw [beq_eq_false_iff_ne]; omega
              rw [this]; rfl
          have y3 : Esc.signs6.contains b = false := by
            cases h6 : Esc.signs6.contains b with
            | false => rfl
            | true =>
              rw [List.contains_iff_mem] at h6
              have : Esc.signs7.contains b = true := by
                rw [List.contains_iff_mem]
                simp only [Esc.signs6, Esc.signs7, List.mem_cons, List.not_mem_nil, or_false] at h6 ⊢
                rcases h6 with rfl | rfl | rfl | rfl | rfl | rfl <;> simp
              rw [this] at x3; cases x3
          show ((p == 0 && Esc.first2.contains b) || (p + 1 == s.size && b == 32) || Esc.signs6.contains b) = false
          rw [y1, y2, y3]; rfl
        rw [Esc.readR, dif_pos p0, q0, if_neg hb92, hbar]
        exact read_step s n t (v1 ++ [b]) (p + 1) f hn' (fun e => by simp at e) (by rw [hlen]; omega) hf' (by rw [hlen]; exact r0)
/-- a value, printed and read, is itself -/
theorem read_printed (v : List UInt8) : Esc.readL true ⟨(Esc.outF (Esc.nameR v.length) 0 v).toArray⟩ = some v := by
  have hp := outF_plain v.length v 0
  have hall : ∀ b ∈ Esc.outF (Esc.nameR v.length) 0 v, 32 ≤ b.toNat ∧ b.toNat ≤ 126 := by
    intro b hb
    have := List.all_eq_true.1 hp b hb
    simpa [Esc.plainB] using this
  have hu := utf_ascii ⟨(Esc.outF (Esc.nameR v.length) 0 v).toArray⟩ (fun b hb => by have := (hall b hb).2; omega)
  have hz : (Esc.outF (Esc.nameR v.length) 0 v).contains 0 = false := by
    cases h : (Esc.outF (Esc.nameR v.length) 0 v).contains 0 with
    | false => rfl
    | true => have := (hall 0 (List.contains_iff_mem.1 h)).1; simp at this
  unfold Esc.readL
  rw [hu]
  show (if (!true || (Esc.outF (Esc.nameR v.length) 0 v).contains 0) = true then none else _) = _
  rw [hz, if_neg (by decide)]
  exact read_step _ v.length v [] 0 _ (by simp) (fun _ => rfl) (Nat.le_refl _) (by rw [Txt.size_mk]; exact outF_ge _ _ _) rfl
end Go.Proofs.YtjmpkbmgcbalkaaGreatDoor.Dn
/- slices.EqualFunc at []api.Rdn: two lists, one by one. Conditions: both read as they lie; what the function that is handed in answers of each two. -/
namespace Go.Proofs.YtjmpkbmgcbalkaaGreatDoor.EqFRdn
open Go.RowKit
set_option linter.unusedVariables false
set_option maxRecDepth 100000 in
theorem equal_calls {α : Type} {R : View α} (hR : R.Ok 1) (hsh : ∀ {w : World} {av : Nat → Prop} {ws : List Value} {x : α}, R w av ws x → ∃ zA0 zn0 zc0, ws = [.slice zA0 zn0 zc0]) (eq : α → α → Bool) (g : Nat) (eg : ∀ args w, (callFunc g args).run Tryz.prog w = .ok (.enter g args) w) (v v' : Value) (xs ys : List α) (w : World) (hx : VSlice 1 R w (fun _ => True) [v] xs) (hy : VSlice 1 R w (fun _ => True) [v'] ys)
    (hg : ∀ (W : World) (vx vy : List Value) (x y : α), x ∈ xs → Below w.heap.size w W → R W (fun _ => True) vx x → R W (fun _ => True) vy y → Calls Tryz.prog g #[.agg vx.toArray, .agg vy.toArray] W fun e w' => e = .returned (.bool (eq x y)) ∧ Below W.heap.size W w') (hz : xs.length ≤ 1000000000) :
    Calls Tryz.prog 40 #[v, v', .func (.func g) #[] #[]] w fun e w' => e = .returned (.bool (eqL eq xs ys)) ∧ Below w.heap.size w w' := by
  obtain ⟨A, c, rfl, _, hx⟩ := hx.open
  obtain ⟨A', c', rfl, _, hy⟩ := hy.open
  have HX := Aside.mk hx
  have HY := Aside.mk hy
  have HG := Aside.mk hg
  clear hx hy hg
  by_cases hl : xs.length = ys.length
  · have HL := Aside.mk hl
    have q0 : ((xs.length : Int) != (ys.length : Int)) = false := by simp [hl]
    have HE := Aside.mk (eqL_len eq xs ys hl)
    clear hl
    go_enter Tryz.func40, Tryz.ntmps40
    go_wp2_with fail
    go_loopg [17] xs.length (fun gk v17 wr => ∃ (k : Nat), v17 = .int .i64 k ∧ Aside (k + gk = xs.length ∧ eqL eq xs ys = eqL eq (xs.drop k) (ys.drop k) ∧ Below w.heap.size w wr))
    case atStart => exact ⟨0, rfl, ⟨by omega, rfl, Below.refl _ _⟩⟩
    case round =>
      obtain ⟨k, rfl, HI⟩ := hrel
      obtain ⟨i1, i2, i3⟩ := HI.out
      clear HI q0
      have I2 := Aside.mk i2
      have I3 := Aside.mk i3
      clear i2 i3
      by_cases hk : k < xs.length
      · obtain ⟨m, rfl⟩ : ∃ m, gk = m + 1 := ⟨gk - 1, by omega⟩
        have hki : (k : Int) < (xs.length : Int) := by omega
        have hkX := hk
        have hkY : k < ys.length := by have := HL.out; omega
        have hkyi : (k : Int) < (ys.length : Int) := by omega
        have HS := Aside.mk (show eqL eq (xs.drop k) (ys.drop k) = (eq xs[k] ys[k] && eqL eq (xs.drop (k + 1)) (ys.drop (k + 1))) by rw [List.drop_eq_getElem_cons hk, List.drop_eq_getElem_cons hkY]; rfl)
        have HMem := Aside.mk (List.getElem_mem hk)
        obtain ⟨bX, oX, rfl, _, hblX, hcellX⟩ := HX.out (by rintro rfl; simp at hkX)
        obtain ⟨wsX, eX, fX⟩ := hcellX k _ (List.getElem?_eq_getElem hkX)
        obtain ⟨xA0, xn0, xc0, rfl⟩ := hsh eX
        have cX0 : wr.cell? ⟨bX, oX + k, none⟩ = some (.slice xA0 xn0 xc0) := by
          have := cell_below (fX 0 _ rfl) I3.out
          simpa [Nat.add_assoc] using this
        have rX := hR.below eX I3.out
        have lX : bX < wr.heap.size := Nat.lt_of_lt_of_le hblX I3.out.size
        have nX : bX ≠ wr.heap.size := Nat.ne_of_lt lX
        obtain ⟨bY, oY, rfl, _, hblY, hcellY⟩ := HY.out (by rintro rfl; simp at hkY)
        obtain ⟨wsY, eY, fY⟩ := hcellY k _ (List.getElem?_eq_getElem hkY)
        obtain ⟨yA0, yn0, yc0, rfl⟩ := hsh eY
        have cY0 : wr.cell? ⟨bY, oY + k, none⟩ = some (.slice yA0 yn0 yc0) := by
          have := cell_below (fY 0 _ rfl) I3.out
          simpa [Nat.add_assoc] using this
        have rY := hR.below eY I3.out
        have lY : bY < wr.heap.size := Nat.lt_of_lt_of_le hblY I3.out.size
        have nY : bY ≠ wr.heap.size := Nat.ne_of_lt lY
        generalize xs[k] = x at HS HMem rX eX
        generalize ys[k] = y at HS rY eY
        have RX := Aside.mk rX
        have RY := Aside.mk rY
        clear rX rY eX eY fX fY hcellX hcellY
        have hsz : wr.heap.size < wr.heap.size + 1 := by omega
        go_wp2_with fail
        refine (HG.out _ [.slice xA0 xn0 xc0] [.slice yA0 yn0 yc0] x y HMem.out ?hb ?hx ?hy).mono ?_
        case hb => exact below_then I3.out (below_then (below_new wr (.cells #[.slice xA0 xn0 xc0] 42)) (below_new (wr.alloc (.cells #[.slice xA0 xn0 xc0] 42)) (.cells #[.slice yA0 yn0 yc0] 42)))
        case hx => exact hR.below RX.out (below_then (below_new wr (.cells #[.slice xA0 xn0 xc0] 42)) (below_new (wr.alloc (.cells #[.slice xA0 xn0 xc0] 42)) (.cells #[.slice yA0 yn0 yc0] 42)))
        case hy => exact hR.below RY.out (below_then (below_new wr (.cells #[.slice xA0 xn0 xc0] 42)) (below_new (wr.alloc (.cells #[.slice xA0 xn0 xc0] 42)) (.cells #[.slice yA0 yn0 yc0] 42)))
        rintro e w1 ⟨rfl, hb⟩
        have HB := Aside.mk (below_then (below_then I3.out (below_then (below_new wr (.cells #[.slice xA0 xn0 xc0] 42)) (below_new (wr.alloc (.cells #[.slice xA0 xn0 xc0] 42)) (.cells #[.slice yA0 yn0 yc0] 42)))) hb)
        clear hb cX0 cY0
        cases hn : eq x y with
        | false =>
          have HN := Aside.mk hn
          clear hn
          go_wp2
          go_ret
          exact ⟨by rw [I2.out, HS.out, HN.out]; rfl, HB.out⟩
        | true =>
          have HN := Aside.mk hn
          clear hn
          go_wp2
          go_roundg m
          case measure => omega
          case rel => exact ⟨k + 1, by go_num, ⟨by omega, by rw [I2.out, HS.out, HN.out]; rfl, HB.out⟩⟩
      · have hk2 : (xs.length : Int) ≤ (k : Int) := by omega
        have hk3 : xs.length ≤ k := by omega
        have HE2 := Aside.mk (show eqL eq xs ys = true by rw [I2.out, List.drop_eq_nil_of_le hk3, List.drop_eq_nil_of_le (by have := HL.out; omega)]; rfl)
        clear hk
        go_wp2
        go_ret
        exact ⟨by rw [HE2.out]; rfl, I3.out⟩
  · have q0 : ((xs.length : Int) != (ys.length : Int)) = true := by simp; omega
    have HE := Aside.mk (eqL_ne eq xs ys hl)
    clear hl
    go_enter Tryz.func40, Tryz.ntmps40
    go_wp2_with fail
    go_ret
    exact ⟨by rw [HE.out]; rfl, Below.refl _ _⟩
end Go.Proofs.YtjmpkbmgcbalkaaGreatDoor.EqFRdn
/- Contracts of functions of Go's library, as the kit's shelf proves them of whatever program, at this program's numbers. Each states its own conditions. -/
namespace Go.Proofs.YtjmpkbmgcbalkaaGreatDoor
open Go.Shelf
def Shelf.Ava_SlLaysH0n8_ren : Go.Shelf.Ren := ⟨fun | 6 => 62 | 8 => 36 | n => n, fun | 0 => 0 | 3 => 3 | 4 => 4 | 22 => 40 | 23 => 39 | 25 => 57 | n => n, fun  | n => n⟩
theorem Shelf.Ava_SlLaysH0n8 : Go.Proofs.SlLaysH0.n8 Tryz.prog Shelf.Ava_SlLaysH0n8_ren := {
  mixed := by kernel_rfl
  f6 := ⟨Tryz.f62.name, by decide, Tryz.func62.trans (congrArg some (by kernel_rfl))⟩
  f8 := ⟨Tryz.f36.name, by decide, Tryz.func36.trans (congrArg some (by kernel_rfl))⟩
  t0 := Tryz.underlying0
  a0 := Tryz.isAgg0
  z0 := Tryz.sizeOf0
  v0 := Tryz.zeroValue0
  t3 := Tryz.underlying3
  a3 := Tryz.isAgg3
  z3 := Tryz.sizeOf3
  v3 := Tryz.zeroValue3
  t4 := Tryz.underlying4
  a4 := Tryz.isAgg4
  z4 := Tryz.sizeOf4
  v4 := Tryz.zeroValue4
  t22 := Tryz.underlying40
  a22 := Tryz.isAgg40
  z22 := Tryz.sizeOf40
  v22 := Tryz.zeroValue40
  t25 := Tryz.underlying57
  a25 := Tryz.isAgg57
  z25 := Tryz.sizeOf57
  v25 := Tryz.zeroValue57 }
open Go.RowKit Go.Lib in
theorem Shelf.Ava_slices_ContainsFunc {α : Type} [Inhabited α] (k : Nat) (aE : ∀ w, (isAgg 39).run Tryz.prog w = .ok true w) (zE : ∀ w, (Go.sizeOf 39).run Tryz.prog w = .ok k w) (enc : α → List Value) (hk : ∀ x, (enc x).length = k) (p : α → Bool) (g : Nat) (lb : Array Value) (eg : ∀ args w, (callFunc g args).run Tryz.prog w = .ok (.enter g args) w) (b off n c : Nat) (zs : List α) (w : World) (hp : PredBelow Tryz.prog g lb (fun x => .agg (enc x).toArray) p w) (hz : n ≤ zs.length) (hbig : n ≤ 9223372036854775807) (hb : b < w.heap.size) (hc : ∀ j, j < zs.length → ∀ i v, (enc zs[j]!)[i]? = some v → w.cell? ⟨b, off + j * k + i, none⟩ = some v) :
    Calls Tryz.prog 36 #[.slice (some ⟨b, off, none⟩) n c, .func (.func g) #[] lb] w fun e w' => e = .returned (.bool ((zs.take n).any p)) ∧ Below w.heap.size w w' := AnyQ.slices_ContainsFunc Shelf.Ava_SlLaysH0n8  k aE zE enc hk p g lb eg b off n c zs w hp hz hbig hb hc
end Go.Proofs.YtjmpkbmgcbalkaaGreatDoor
/- Contracts of functions of Go's library, as the kit's shelf proves them of whatever program, at this program's numbers. Each states its own conditions. -/
namespace Go.Proofs.YtjmpkbmgcbalkaaGreatDoor
open Go.Shelf
def Shelf.Rdn_SlLaysH0n8_ren : Go.Shelf.Ren := ⟨fun | 6 => 63 | 8 => 39 | n => n, fun | 0 => 0 | 3 => 3 | 4 => 4 | 22 => 22 | 23 => 42 | 25 => 58 | n => n, fun  | n => n⟩
theorem Shelf.Rdn_SlLaysH0n8 : Go.Proofs.SlLaysH0.n8 Tryz.prog Shelf.Rdn_SlLaysH0n8_ren := {
  mixed := by kernel_rfl
  f6 := ⟨Tryz.f63.name, by decide, Tryz.func63.trans (congrArg some (by kernel_rfl))⟩
  f8 := ⟨Tryz.f39.name, by decide, Tryz.func39.trans (congrArg some (by kernel_rfl))⟩
  t0 := Tryz.underlying0
  a0 := Tryz.isAgg0
  z0 := Tryz.sizeOf0
  v0 := Tryz.zeroValue0
  t3 := Tryz.underlying3
  a3 := Tryz.isAgg3
  z3 := Tryz.sizeOf3
  v3 := Tryz.zeroValue3
  t4 := Tryz.underlying4
  a4 := Tryz.isAgg4
  z4 := Tryz.sizeOf4
  v4 := Tryz.zeroValue4
  t22 := Tryz.underlying22
  a22 := Tryz.isAgg22
  z22 := Tryz.sizeOf22
  v22 := Tryz.zeroValue22
  t25 := Tryz.underlying58
  a25 := Tryz.isAgg58
  z25 := Tryz.sizeOf58
  v25 := Tryz.zeroValue58 }
open Go.RowKit Go.Lib in
theorem Shelf.Rdn_slices_ContainsFunc {α : Type} [Inhabited α] (k : Nat) (aE : ∀ w, (isAgg 42).run Tryz.prog w = .ok true w) (zE : ∀ w, (Go.sizeOf 42).run Tryz.prog w = .ok k w) (enc : α → List Value) (hk : ∀ x, (enc x).length = k) (p : α → Bool) (g : Nat) (lb : Array Value) (eg : ∀ args w, (callFunc g args).run Tryz.prog w = .ok (.enter g args) w) (b off n c : Nat) (zs : List α) (w : World) (hp : PredBelow Tryz.prog g lb (fun x => .agg (enc x).toArray) p w) (hz : n ≤ zs.length) (hbig : n ≤ 9223372036854775807) (hb : b < w.heap.size) (hc : ∀ j, j < zs.length → ∀ i v, (enc zs[j]!)[i]? = some v → w.cell? ⟨b, off + j * k + i, none⟩ = some v) :
    Calls Tryz.prog 39 #[.slice (some ⟨b, off, none⟩) n c, .func (.func g) #[] lb] w fun e w' => e = .returned (.bool ((zs.take n).any p)) ∧ Below w.heap.size w w' := AnyQ.slices_ContainsFunc Shelf.Rdn_SlLaysH0n8  k aE zE enc hk p g lb eg b off n c zs w hp hz hbig hb hc
end Go.Proofs.YtjmpkbmgcbalkaaGreatDoor
/- dn: which names are right, the same, under each other (isAva, Right, isSame, Same, IsUnder). Conditions: the names read as they lie. -/
namespace Go.Proofs.YtjmpkbmgcbalkaaGreatDoor.Dn
open Go.RowKit Go.Shelf Go.Lib
set_option linter.unusedVariables false
abbrev Ava := ByteArray × ByteArray
abbrev Rdn := List Ava
abbrev Name := List Rdn
def VAva : View Ava := VCat VStr VStr
def VRdn : View Rdn := VSlice 2 VAva
def VName : View Name := VSlice 1 VRdn
theorem VAva.ok : VAva.Ok 2 := VCat.ok VStr.ok VStr.ok
theorem VRdn.ok : VRdn.Ok 1 := VSlice.ok VAva.ok
theorem VName.ok : VName.Ok 1 := VSlice.ok VRdn.ok
theorem VAva.cells {w : World} {av : Nat → Prop} {ws : List Value} {a : Ava} (h : VAva w av ws a) : ws = [.string a.1, .string a.2] := by
  obtain ⟨v1, v2, rfl, h1, h2⟩ := h
  have e1 : v1 = [.string a.1] := h1
  have e2 : v2 = [.string a.2] := h2
  rw [e1, e2]; rfl
theorem VAva.mk (w : World) (av : Nat → Prop) (a : Ava) : VAva w av [.string a.1, .string a.2] a := ⟨[.string a.1], [.string a.2], rfl, rfl, rfl⟩
def avaB (a : Ava) : Bool := typeB a.1.data.toList && decide (a.2.size ≤ 60)
def rdnB (r : Rdn) : Bool := decide (1 ≤ r.length) && (decide (r.length ≤ 3) && r.all avaB)
def rightB (d : Name) : Bool := decide (d.length ≤ 8) && d.all rdnB
theorem ava_calls (a : Ava) (w : World) (p : Nat → Addr) (hE : Env w p) : Calls Tryz.prog 38 #[.agg #[.string a.1, .string a.2]] w fun e w' => e = .returned (.bool (avaB a)) ∧ Below w.heap.size w w' := by
  obtain ⟨t, v⟩ := a
  dsimp only
  have HB0 := Aside.mk (below_new w (.cells #[.string t, .string v] 39))
  go_enter Tryz.func38, Tryz.ntmps38
  go_wp2_with fail
  refine (type_calls t _ p (hE.below HB0.out)).mono ?_
  rintro e w1 ⟨rfl, hb⟩
  have c1 : w1.cell? ⟨w.heap.size, 1, none⟩ = some (.string v) := cell_below (cell_new w _ _ _ 1 rfl) hb
  have HB1 := Aside.mk (below_then HB0.out hb)
  clear hb
  cases ht : typeB t.data.toList with
  | false =>
    have HT := Aside.mk ht
    clear ht
    go_wp2
    go_ret
    exact ⟨by rw [avaB, HT.out]; rfl, HB1.out⟩
  | true =>
    have HT := Aside.mk ht
    clear ht
    go_wp2
    go_ret
    exact ⟨by rw [avaB, HT.out]; simp; omega, HB1.out⟩
theorem notAva (a : Ava) (w : World) (p : Nat → Addr) (hE : Env w p) : Calls Tryz.prog 37 #[.agg #[.string a.1, .string a.2]] w fun e w' => e = .returned (.bool (!avaB a)) ∧ Below w.heap.size w w' := by
  have HB0 := Aside.mk (below_new w (.cells #[.string a.1, .string a.2] 39))
  go_enter Tryz.func37, Tryz.ntmps37
  go_wp2_with fail
  refine (ava_calls a _ p (hE.below HB0.out)).mono ?_
  rintro e w1 ⟨rfl, hb⟩
  have HB1 := Aside.mk (below_then HB0.out hb)
  clear hb
  go_wp2
  go_ret
  exact ⟨rfl, HB1.out⟩
/-- are some parts not right? -/
theorem some_ava (v : Value) (r : Rdn) (w : World) (p : Nat → Addr) (hE : Env w p) (hv : VRdn w (fun _ => True) [v] r) (hr : r.length ≤ 1000000000) :
    Calls Tryz.prog 36 #[v, .func (.func 37) #[] #[]] w fun e w' => e = .returned (.bool (r.any fun a => !avaB a)) ∧ Below w.heap.size w w' := by
  obtain ⟨A, c, rfl, hl, hx⟩ := VSlice.open hv
  by_cases hn : r = []
  · subst hn
    go_enter Tryz.func36, Tryz.ntmps36
    go_wp2
    refine wp_loop_rounds 1 ?_
    rw [rounds_succ]
    go_wp2
    go_ret
    exact ⟨rfl, Below.refl _ _⟩
  · obtain ⟨b, o, rfl, _, hb, hc⟩ := hx hn
    have h := Shelf.Ava_slices_ContainsFunc 2 Tryz.isAgg39 Tryz.sizeOf39 (fun a : Ava => [.string a.1, .string a.2]) (fun _ => rfl) (fun a => !avaB a) 37 #[] (enters_of Tryz.func37 (by kernel_rfl) rfl) b o r.length c r w
      (fun W x hbw => (notAva x W p (hE.below hbw)).mono fun e w' h => ⟨h.1, hbw.trans (h.2.mono hbw.size)⟩) (Nat.le_refl _) (by omega) hb (fun j hj i v hv => by
        obtain ⟨ws, h1, h2⟩ := hc j r[j] (List.getElem?_eq_getElem hj)
        rw [h1.cells] at h2
        rw [getElem!_pos r j hj] at hv
        rw [Nat.add_assoc]
        exact h2 i v hv)
    rw [List.take_length] at h
    exact h
theorem notRdn (v : Value) (r : Rdn) (w : World) (p : Nat → Addr) (hE : Env w p) (hv : VRdn w (fun _ => True) [v] r) : Calls Tryz.prog 35 #[.agg #[v]] w fun e w' => e = .returned (.bool (!rdnB r)) ∧ Below w.heap.size w w' := by
  have hV2 := Aside.mk (VRdn.ok.below hv (below_new w (.cells #[v] 42)))
  obtain ⟨A, c, rfl, hl, hx⟩ := VSlice.open hv
  clear hx hv
  have HB0 := Aside.mk (below_new w (.cells #[.slice A r.length c] 42))
  rcases (by omega : (r.length < 1 ∧ (r.length : Int) < 1) ∨ (3 < r.length ∧ (3 : Int) < (r.length : Int) ∧ (1 : Int) ≤ (r.length : Int)) ∨ (1 ≤ r.length ∧ r.length ≤ 3 ∧ (r.length : Int) ≤ 3 ∧ (1 : Int) ≤ (r.length : Int))) with ⟨h1, h2⟩ | ⟨h1, h2, h3⟩ | ⟨h1, h2, h3, h4⟩
  · have HT := Aside.mk (show rdnB r = false by unfold rdnB; rw [decide_eq_false (by omega)]; rfl)
    clear h1
    go_enter Tryz.func35, Tryz.ntmps35
    go_wp2_with fail
    go_ret
    exact ⟨by rw [HT.out]; rfl, HB0.out⟩
  · have HT := Aside.mk (show rdnB r = false by unfold rdnB; rw [decide_eq_false (p := r.length ≤ 3) (by omega), Bool.false_and, Bool.and_false])
    clear h1
    go_enter Tryz.func35, Tryz.ntmps35
    go_wp2_with fail
    go_ret
    exact ⟨by rw [HT.out]; rfl, HB0.out⟩
  · have HT := Aside.mk (show rdnB r = r.all avaB by unfold rdnB; rw [decide_eq_true h1, decide_eq_true h2]; rfl)
    have HA := Aside.mk (show (r.any fun a => !avaB a) = !(r.all avaB) by rw [List.not_all_eq_any_not])
    have hr : r.length ≤ 1000000000 := by omega
    clear h1 h2
    go_enter Tryz.func35, Tryz.ntmps35
    go_wp2_with fail
    refine (some_ava _ r _ p (hE.below HB0.out) hV2.out hr).mono ?_
    rintro e w1 ⟨rfl, hb⟩
    have HB1 := Aside.mk (below_then HB0.out hb)
    clear hb
    go_wp2
    go_ret
    exact ⟨by rw [HT.out, ← HA.out]; rfl, HB1.out⟩
theorem VRdn.cells {w : World} {av : Nat → Prop} {ws : List Value} {r : Rdn} (h : VRdn w av ws r) : ∃ A n c, ws = [.slice A n c] := by
  obtain ⟨A, c, e, _⟩ := h
  exact ⟨_, _, _, e⟩
/-- are some parts of a name not right? -/
theorem some_rdn (v : Value) (d : Name) (w : World) (p : Nat → Addr) (hE : Env w p) (hv : VName w (fun _ => True) [v] d) (hr : d.length ≤ 1000000000) :
    Calls Tryz.prog 39 #[v, .func (.func 35) #[] #[]] w fun e w' => e = .returned (.bool (d.any fun a => !rdnB a)) ∧ Below w.heap.size w w' := by
  obtain ⟨A, c, rfl, hl, hx⟩ := VSlice.open hv
  by_cases hn : d = []
  · subst hn
    go_enter Tryz.func39, Tryz.ntmps39
    go_wp2
    refine wp_loop_rounds 1 ?_
    rw [rounds_succ]
    go_wp2
    go_ret
    exact ⟨rfl, Below.refl _ _⟩
  · obtain ⟨b, o, rfl, _, hb, hc⟩ := hx hn
    have hc' : ∀ j : Fin d.length, ∃ v, VRdn w (fun _ => True) [v] d[j] ∧ w.cell? ⟨b, o + j.1, none⟩ = some v := fun j => by
      obtain ⟨ws, h1, h2⟩ := hc j d[j] (List.getElem?_eq_getElem j.2)
      obtain ⟨A, n, c, rfl⟩ := h1.cells
      exact ⟨_, h1, by have := h2 0 _ rfl; simpa using this⟩
    let zs : List { x : Value × Rdn // VRdn w (fun _ => True) [x.1] x.2 } := List.ofFn fun j => ⟨((hc' j).choose, d[j]), (hc' j).choose_spec.1⟩
    have hzl : zs.length = d.length := by simp [zs]
    have hpos : 0 < d.length := List.length_pos_iff.2 hn
    have hinh : Inhabited { x : Value × Rdn // VRdn w (fun _ => True) [x.1] x.2 } := ⟨zs[0]'(by omega)⟩
    have h := Shelf.Rdn_slices_ContainsFunc 1 Tryz.isAgg42 Tryz.sizeOf42 (fun a : { x : Value × Rdn // VRdn w (fun _ => True) [x.1] x.2 } => [a.1.1]) (fun _ => rfl) (fun a => !rdnB a.1.2) 35 #[] (enters_of Tryz.func35 (by kernel_rfl) rfl) b o d.length c zs w
      (fun W x hbw => (notRdn x.1.1 x.1.2 W p (hE.below hbw) (VRdn.ok.below x.2 hbw)).mono fun e w' h => ⟨h.1, hbw.trans (h.2.mono hbw.size)⟩) (by omega) (by omega) hb (fun j hj i v hv => by
        rw [getElem!_pos zs j hj] at hv
        have hjd : j < d.length := by omega
        have hi : i = 0 := by
          have := (List.getElem?_eq_some_iff.1 hv).1
          simpa using this
        subst hi
        have h2 := (hc' ⟨j, hjd⟩).choose_spec.2
        have : zs[j] = ⟨((hc' ⟨j, hjd⟩).choose, d[j]), (hc' ⟨j, hjd⟩).choose_spec.1⟩ := by simp [zs]
        rw [this] at hv
        cases hv
        simpa using h2)
    have hmap : zs.map (·.1.2) = d := by
      refine List.ext_getElem (by simp [hzl]) fun j h1 h2 => ?_
      simp [zs]
    have hany : (zs.take d.length).any (fun a => !rdnB a.1.2) = d.any fun a => !rdnB a := by
      rw [List.take_of_length_le (by omega)]
      conv => rhs; rw [← hmap]
      rw [List.any_map]; rfl
    rw [hany] at h
    exact h
theorem right_calls (v : Value) (d : Name) (w : World) (p : Nat → Addr) (hE : Env w p) (hv : VName w (fun _ => True) [v] d) : Calls Tryz.prog 19 #[v] w fun e w' => e = .returned (.bool (rightB d)) ∧ Below w.heap.size w w' := by
  have hV := Aside.mk hv
  obtain ⟨A, c, rfl, hl, hx⟩ := VSlice.open hv
  clear hx hv
  by_cases h8 : d.length ≤ 8
  · have h8i : (d.length : Int) ≤ 8 := by omega
    have HT := Aside.mk (show rightB d = d.all rdnB by unfold rightB; rw [decide_eq_true h8]; rfl)
    have HA := Aside.mk (show (d.any fun a => !rdnB a) = !(d.all rdnB) by rw [List.not_all_eq_any_not])
    go_enter Tryz.func19, Tryz.ntmps19
    go_wp2_with fail
    refine (some_rdn _ d _ p hE hV.out (by omega)).mono ?_
    rintro e w1 ⟨rfl, hb⟩
    have HB1 := Aside.mk hb
    clear hb
    go_wp2
    go_ret
    exact ⟨by rw [HT.out, HA.out]; simp, HB1.out⟩
  · have h8i : (8 : Int) < (d.length : Int) := by omega
    have HT := Aside.mk (show rightB d = false by unfold rightB; rw [decide_eq_false h8]; rfl)
    clear h8
    go_enter Tryz.func19, Tryz.ntmps19
    go_wp2_with fail
    go_ret
    exact ⟨by rw [HT.out]; rfl, Below.refl _ _⟩
end Go.Proofs.YtjmpkbmgcbalkaaGreatDoor.Dn
/- dn.part: the part of a piece. Conditions: at most 10^6 bytes; the package-level variables of Env. -/
namespace Go.Proofs.YtjmpkbmgcbalkaaGreatDoor.Dn
open Go.RowKit
set_option linter.unusedVariables false
/-- what a piece says -/
def partA (s : ByteArray) : Option Ava :=
  if (Lib.cut s.data.toList [61]).2.2 then (Esc.readL true ⟨(Lib.cut s.data.toList [61]).2.1.toArray⟩).map fun v => (⟨(Lib.cut s.data.toList [61]).1.toArray⟩, ⟨v.toArray⟩) else none
theorem cut_le (l sep : List UInt8) : (Lib.cut l sep).2.1.length ≤ l.length := by
  unfold Lib.cut
  split
  · simp only [List.length_drop]; omega
  · simp
theorem part_out (W : World) (k : Nat) (x y : ByteArray) (hb : W.heap[k]? = some (.cells #[.string x, .string y] 39 (0, 0))) (tmps : Array Value) (h2 : tmps.getD 2 undef = .pointer (some ⟨k, 0, none⟩)) :
    (results Tryz.f60 tmps).run Tryz.prog W = .ok (.tuple #[.agg #[.string x, .string y], tmps.getD 3 undef]) W := by
  have c0 := cel hb 0 (v := .string x) rfl
  have c1 := cel hb 1 (v := .string y) rfl
  have h3 : tmps[2]?.getD undef = .pointer (some ⟨k, 0, none⟩) := by rw [← h2]; simp
  simp [results, Tryz.f60, go_sem, h3, c0, c1]
def PartRes (w : World) (s : ByteArray) (e : Ending) (w' : World) : Prop :=
  ((∃ a, partA s = some a ∧ e = .returned (.tuple #[.agg #[.string a.1, .string a.2], .nilIface])) ∨ (partA s = none ∧ e = .returned (.tuple #[.agg #[.string ⟨#[]⟩, .string ⟨#[]⟩], .iface 46 (.agg #[.string s])]))) ∧ Below w.heap.size w w'
set_option maxRecDepth 100000 in
set_option maxHeartbeats 4000000 in
theorem part_calls (s : ByteArray) (hs : s.size ≤ 1000000) (w : World) (p : Nat → Addr) (hE : Env w p) :
    Calls Tryz.prog 60 #[.string s] w (PartRes w s) := by
  obtain ⟨m, hm⟩ := hE.ml
  have HE := Aside.mk hE
  clear hE
  obtain ⟨W0, hW0⟩ : ∃ W0, w.alloc (.cells #[.string ⟨#[]⟩, .string ⟨#[]⟩] 39) = W0 := ⟨_, rfl⟩
  have hb0 : Below w.heap.size w W0 := by rw [← hW0]; exact below_new _ _
  have hh0 : W0.heap[w.heap.size]? = some (.cells #[.string ⟨#[]⟩, .string ⟨#[]⟩] 39 (0, 0)) := by rw [← hW0]; exact World.alloc_heap_new _ _
  have HB0 := Aside.mk hb0
  have HH0 := Aside.mk hh0
  have HC := Aside.mk (Shelf.strings_Cut s ⟨#[61]⟩ m W0 (by omega) (cell_below hm hb0))
  clear hb0 hh0 hm
  have HLE := Aside.mk (cut_le s.data.toList [61])
  have HPA := Aside.mk (show partA s = if (Lib.cut s.data.toList [61]).2.2 then (Esc.readL true ⟨(Lib.cut s.data.toList [61]).2.1.toArray⟩).map fun v => (⟨(Lib.cut s.data.toList [61]).1.toArray⟩, ⟨v.toArray⟩) else none from rfl)
  have HSL := Aside.mk (Txt.size_list s)
  go_enter Tryz.func60, Tryz.ntmps60
  go_wp2_with fail
  clear hW0
  refine HC.out.mono ?_
  rintro e w1 ⟨rfl, n, rfl⟩
  generalize Lib.cut s.data.toList [61] = q at HLE HPA
  obtain ⟨nm, vl, ok⟩ := q
  have HB1 := Aside.mk (below_then HB0.out (below_drewN W0 n))
  have HH1 := Aside.mk (blk_below HH0.out (below_drewN W0 n))
  generalize W0.drewN n = W1 at HB1 HH1
  clear HC
  go_wp2_with fail
  refine (Esc.readName_calls ⟨vl.toArray⟩ (by rw [Txt.size_mk]; have := HLE.out; have := HSL.out; omega) W1 p (HE.out.below HB1.out)).mono ?_
  rintro e w2 ⟨rfl, hb⟩
  have HB2 := Aside.mk (below_then HB1.out hb)
  have HH2 := Aside.mk (blk_below HH1.out hb)
  clear hb
  have c0 := cel HH2.out 0 (v := .string ⟨#[]⟩) rfl
  have c1 := cel HH2.out 1 (v := .string ⟨#[]⟩) rfl
  have f0 := frz HH2.out 0
  have f1 := frz HH2.out 1
  cases ok with
  | false =>
    have HP := Aside.mk (show partA s = none from HPA.out)
    clear HPA
    go_wp2
    refine bodyPost_ret (part_out _ w.heap.size _ _ (set_blk (set_blk HH2.out 0 _) 1 _) _ rfl) rfl ?_
    exact ⟨.inr ⟨HP.out, rfl⟩, (HB2.out.setCell (p := ⟨w.heap.size, 0, none⟩) (Nat.le_refl _) _).setCell (p := ⟨w.heap.size, 1, none⟩) (Nat.le_refl _) _⟩
  | true =>
    cases hr : Esc.readL true ⟨vl.toArray⟩ with
    | none =>
      have HP := Aside.mk (show partA s = none by rw [HPA.out, hr]; rfl)
      have HT := Aside.mk (show Esc.readT true ⟨vl.toArray⟩ = [] by unfold Esc.readT; rw [hr]; rfl)
      have hC : Esc.readC true ⟨vl.toArray⟩ = 60 := by unfold Esc.readC; rw [hr]; rfl
      rw [hC]
      clear HPA hr hC
      go_wp2
      refine bodyPost_ret (part_out _ w.heap.size _ _ (set_blk (set_blk HH2.out 0 _) 1 _) _ rfl) rfl ?_
      exact ⟨.inr ⟨HP.out, rfl⟩, (HB2.out.setCell (p := ⟨w.heap.size, 0, none⟩) (Nat.le_refl _) _).setCell (p := ⟨w.heap.size, 1, none⟩) (Nat.le_refl _) _⟩
    | some v =>
      have HP := Aside.mk (show partA s = some (⟨nm.toArray⟩, ⟨v.toArray⟩) by rw [HPA.out, hr]; rfl)
      have hT : Esc.readT true ⟨vl.toArray⟩ = v := by unfold Esc.readT; rw [hr]; rfl
      have hC : Esc.readC true ⟨vl.toArray⟩ = 0 := by unfold Esc.readC; rw [hr]; rfl
      rw [hC, hT]
      clear HPA hr hC hT
      go_wp2
      refine bodyPost_ret (part_out _ w.heap.size _ _ (set_blk (set_blk HH2.out 0 _) 1 _) _ rfl) rfl ?_
      exact ⟨.inl ⟨_, HP.out, rfl⟩, (HB2.out.setCell (p := ⟨w.heap.size, 0, none⟩) (Nat.le_refl _) _).setCell (p := ⟨w.heap.size, 1, none⟩) (Nat.le_refl _) _⟩
end Go.Proofs.YtjmpkbmgcbalkaaGreatDoor.Dn
/- dn, plain: a printed part, read, is that part. -/
namespace Go.Proofs.YtjmpkbmgcbalkaaGreatDoor.Dn
open Go.Lib
set_option linter.unusedVariables false
theorem index_here (c : UInt8) (y : List UInt8) : ∀ x : List UInt8, c ∉ x → index (x ++ c :: y) [c] = (x.length : Int)
  | [], _ => by rw [List.nil_append, Txt.index_cons, if_pos rfl]; rfl
  | b :: t, h => by
    have h1 : b ≠ c := fun e => h (by simp [e])
    have h2 : c ∉ t := fun e => h (by simp [e])
    rw [List.cons_append, Txt.index_cons, if_neg h1, index_here c y t h2, if_neg (by omega), List.length_cons]
    omega
theorem cut_here (c : UInt8) (x y : List UInt8) (h : c ∉ x) : Lib.cut (x ++ c :: y) [c] = (x, y, true) := by
  unfold Lib.cut
  rw [index_here c y x h, if_pos (by omega)]
  have e : ((x.length : Int)).toNat = x.length := by omega
  rw [e, List.length_singleton, List.take_left' rfl]
  have : List.drop (x.length + 1) (x ++ c :: y) = y := by
    rw [List.drop_append, List.drop_eq_nil_of_le (by omega), show x.length + 1 - x.length = 1 by omega]; rfl
  rw [this]
/-- a byte of a type -/
def typeByte (b : UInt8) : Bool := letter b || digit b || decide (b.toNat = 45) || decide (b.toNat = 46)
theorem split_bytes (c : UInt8) (P : UInt8 → Bool) : ∀ l : List UInt8, (∀ z ∈ Txt.splitOn c l, z.all P = true) → ∀ b ∈ l, b = c ∨ P b = true
  | [], _, b, hb => by cases hb
  | x :: t, h, b, hb => by
    rw [Txt.splitOn] at h
    by_cases hx : x = c
    · rw [if_pos hx] at h
      rcases List.mem_cons.1 hb with rfl | hb
      · exact .inl hx
      · exact split_bytes c P t (fun z hz => h z (by simp [hz])) b hb
    · rw [if_neg hx] at h
      cases hs : Txt.splitOn c t with
      | nil => exact absurd hs (Txt.splitOn_ne c t)
      | cons z r =>
        rw [hs] at h
        have h1 := h (x :: z) (by simp)
        simp only [List.all_cons, Bool.and_eq_true] at h1
        rcases List.mem_cons.1 hb with rfl | hb
        · exact .inr h1.1
        · refine split_bytes c P t (fun q hq => ?_) b hb
          rw [hs] at hq
          rcases List.mem_cons.1 hq with rfl | hq
          · exact h1.2
          · exact h q (by simp [hq])
theorem type_bytes (l : List UInt8) (h : typeB l = true) : ∀ b ∈ l, typeByte b = true := by
  unfold typeB at h
  simp only [Bool.and_eq_true, Bool.or_eq_true] at h
  rcases h.2 with h1 | h1
  · intro b hb
    cases l with
    | nil => cases hb
    | cons c t =>
      simp only [keyB, Bool.and_eq_true] at h1
      rcases List.mem_cons.1 hb with rfl | hb
      · simp [typeByte, h1.1]
      · have := List.all_eq_true.1 h1.2 b hb
        simp only [keyRest, Bool.or_eq_true] at this
        simp only [typeByte, Bool.or_eq_true]
        exact .inl this
  · intro b hb
    have := split_bytes 46 digit l (fun z hz => by
      have := List.all_eq_true.1 h1.2 z hz
      unfold numB at this
      simp only [Bool.and_eq_true] at this
      exact this.2.1) b hb
    rcases this with rfl | h2
    · decide
    · simp [typeByte, h2]
theorem typeByte_ne (b : UInt8) (h : typeByte b = true) : b ≠ 92 ∧ b ≠ 61 ∧ b ≠ 44 ∧ b ≠ 43 := by
  refine ⟨?_, ?_, ?_, ?_⟩ <;> (rintro rfl; exact absurd h (by decide))
/-- a part's text -/
def avaL (a : Ava) : List UInt8 := a.1.data.toList ++ 61 :: Esc.outF (Esc.nameR a.2.size) 0 a.2.data.toList
theorem closed_all (c : UInt8) : ∀ l : List UInt8, (∀ b ∈ l, b ≠ 92 ∧ b ≠ c) → closedL c l = true
  | [], _ => rfl
  | b :: t, h => by rw [closed_other c b (h b (by simp)).1 (h b (by simp)).2]; exact closed_all c t (fun x hx => h x (by simp [hx]))
theorem ava_closed (c : UInt8) (hc : c = 44 ∨ c = 43) (a : Ava) (ha : typeB a.1.data.toList = true) : closedL c (avaL a) = true := by
  unfold avaL
  rw [closed_append]
  · rw [closed_other c 61 (by decide) (by rcases hc with rfl | rfl <;> decide)]
    exact outF_closed c (by rcases hc with rfl | rfl <;> decide) _ _ _
  · refine closed_all c _ (fun b hb => ?_)
    have := typeByte_ne b (type_bytes _ ha b hb)
    rcases hc with rfl | rfl
    · exact ⟨this.1, this.2.2.1⟩
    · exact ⟨this.1, this.2.2.2⟩
theorem part_printed (a : Ava) (ha : typeB a.1.data.toList = true) : partA ⟨(avaL a).toArray⟩ = some a := by
  have hn : (61 : UInt8) ∉ a.1.data.toList := fun h => (typeByte_ne 61 (type_bytes _ ha 61 h)).2.1 rfl
  have hc : Lib.cut (avaL a) [61] = (a.1.data.toList, Esc.outF (Esc.nameR a.2.size) 0 a.2.data.toList, true) := cut_here 61 _ _ hn
  have hr := read_printed a.2.data.toList
  rw [Txt.size_list] at hr
  unfold partA
  show (if (Lib.cut (avaL a) [61]).2.2 = true then (Esc.readL true ⟨(Lib.cut (avaL a) [61]).2.1.toArray⟩).map (fun v => ((⟨(Lib.cut (avaL a) [61]).1.toArray⟩, ⟨v.toArray⟩) : Ava)) else none) = some a
  rw [hc]
  simp only [if_true, hr, Option.map_some]
end Go.Proofs.YtjmpkbmgcbalkaaGreatDoor.Dn
