/- latinerlaw14.FrameWhole answers true. Conditions: the package's variables hold their sentinels. -/
import Derived.Test.YtglmnglaliljdaaDoorFrameP
import Derived.Lib.ConvBytes
namespace Go.Proofs.YtglmnglaliljdaaDoor.Frame
open Go.RowKit Size
set_option linter.unusedVariables false
/-- a text's first bytes -/
def cutS (s : ByteArray) : ByteArray := s.extract 0 (min s.size 4100)
theorem cutS_size (s : ByteArray) : (cutS s).size ≤ 4100 := by unfold cutS; rw [ByteArray.size_extract]; omega
theorem cut (s : ByteArray) (w : World) (hs : s.size ≤ maxLen) :
    Calls Tryd.prog 15 #[.string s] w fun e w' => e = .returned (.string (cutS s)) ∧ w = w' := by
  unfold maxLen at hs
  unfold cutS
  by_cases h : s.size ≤ 4100
  · have hi : (s.size : Int) ≤ 4100 := by omega
    have e : min s.size 4100 = s.size := by omega
    rw [e, ByteArray.extract_zero_size]
    clear e h
    go_enter Tryd.func15, Tryd.ntmps15
    go_wp2
    go_ret
    exact ⟨rfl, rfl⟩
  · have hi : (4100 : Int) < (s.size : Int) := by omega
    have e : min s.size 4100 = 4100 := by omega
    rw [e]
    clear e h
    go_enter Tryd.func15, Tryd.ntmps15
    go_wp2
    go_ret
    exact ⟨rfl, rfl⟩
theorem flat_len (P : List (List UInt8)) (h : ∀ x ∈ P, 2 ≤ x.length ∧ x.length ≤ 4006 ∧ x.head? = some 48) : P.length ≤ P.flatten.length := by
  induction P with
  | nil => simp
  | cons a r ih =>
    have h1 := (h a List.mem_cons_self).1
    have h2 := ih (fun x hx => h x (List.mem_cons_of_mem _ hx))
    rw [List.flatten_cons, List.length_append, List.length_cons]
    omega
theorem flat_take (P : List (List UInt8)) (j : Nat) : (P.take j).flatten.length ≤ P.flatten.length := by
  have h := congrArg List.flatten (List.take_append_drop j P)
  rw [List.flatten_append] at h
  have h2 := congrArg List.length h
  rw [List.length_append] at h2
  omega
theorem ba_size (X : ByteArray) : X.data.toList.length = X.size := by rw [Array.length_toList]; rfl

set_option maxRecDepth 100000 in
set_option maxHeartbeats 4000000 in
theorem whole_bad (s : ByteArray) (w : World) (p : Nat → Addr) (hG : Globs w p) (hs : s.size ≤ maxLen) (P : List (List UInt8)) (K : List UInt8) (T E : Int) (hR : feedSt [] 0 0 (cutS s) = (P, K, T, E)) (hE : E ≠ 0) :
    Calls Tryd.prog 5 #[.string s] w fun e w' => e = .returned (.bool true) ∧ Below w.heap.size w w' := by
  obtain ⟨f1, f2, f3, f4, f5, f6⟩ := clean_facts _ P K T E hR
  have hsz := cutS_size s
  obtain rfl : K = [] := f5 hE
  have q1 : (E == 0) = false := by simp [hE]
  have q2 : (E != 0) = true := by simp [hE]
  have HF := Aside.mk (And.intro f1 (And.intro f2 (And.intro f3 (And.intro f4 f6))))
  have HR := Aside.mk hR
  clear f1 f2 f3 f4 f5 f6 hR
  go_enter Tryd.func5, Tryd.ntmps5
  go_wp2_with fail
  refine (shown w p hG).mono ?_
  rintro e w1 ⟨rfl, hb1⟩
  have B1 := Aside.mk hb1
  have G1 := Aside.mk (hG.below hb1)
  clear hb1 hG
  go_wp2_with fail
  refine (cut s w1 hs).mono ?_
  rintro e w1 ⟨rfl, rfl⟩
  generalize cutS s = t at HR HF hsz ⊢
  go_wp2_with fail
  refine (new w1 p (fun _ => True)).mono ?_
  rintro e w2 ⟨rfl, hb, hF, hlt⟩
  have hgf := G1.out.free (Nat.le_refl w1.heap.size)
  have B2 := Aside.mk (below_then B1.out hb)
  have hle : w.heap.size ≤ w1.heap.size := B1.out.size
  have G2 := Aside.mk (G1.out.below hb)
  have F2 := Aside.mk hF
  clear hb hF
  go_wp2_with fail
  refine (feed F2.out G2.out t (by simp; omega) (by decide) (by decide) hgf (fun _ _ => trivial)).mono ?_
  rw [HR.out]
  rintro e w3 ⟨v3, rfl, hr, hg, hF⟩
  obtain ⟨A3, cp3, rfl⟩ := hr.len
  have B3 := Aside.mk (show Below w.heap.size w w3 from B2.out.grown hg B2.out.size (by intro k hk; cases hk; exact hle))
  have G3 := Aside.mk (G2.out.grown hgf hg)
  have F3 := Aside.mk hF
  have R3 := Aside.mk hr
  clear hr hg hF
  have hpl : (txt P).length = P.length := by simp [txt]
  rw [hpl]
  clear hpl
  go_wp2
  have HPL := Aside.mk (Nat.le_trans (flat_len P HF.out.2.2.2.1) (Nat.le_trans HF.out.2.1 hsz))
  go_loopg [7, 8] P.length (fun gk v7 v8 wr => ∃ (j : Nat) (X : ByteArray), v7 = .string X ∧ v8 = .int .i64 j ∧ Aside (j + gk = P.length ∧ X.data.toList = (P.take j).flatten ∧ w3 = wr))
  case atStart => exact ⟨0, ⟨#[]⟩, rfl, rfl, ⟨by simp, by simp, rfl⟩⟩
  case round =>
    obtain ⟨j, X, rfl, rfl, HJ⟩ := hrel
    obtain ⟨hj1, hj2, rfl⟩ := HJ.out
    clear HJ
    by_cases hj : j < P.length
    · obtain ⟨m, rfl⟩ : ∃ m, gk = m + 1 := ⟨gk - 1, by omega⟩
      obtain ⟨x, hx⟩ : ∃ x : ByteArray, x = ⟨(P[j]).toArray⟩ := ⟨_, rfl⟩
      have hxc : (txt P)[j]? = some x := by rw [txt, List.getElem?_map, List.getElem?_eq_getElem hj, hx]; rfl
      obtain ⟨A, c, e, hxx⟩ := R3.out
      obtain ⟨b, o, rfl, _, hcl⟩ := hxx (by intro e; rw [e] at hxc; simp at hxc)
      simp only [Value.slice.injEq] at e
      obtain ⟨rfl, _, rfl⟩ := e
      have cx := hcl j x hxc
      obtain ⟨g1, g2, g3⟩ := HF.out.2.2.2.1 P[j] (List.getElem_mem hj)
      have hxs : x.size = (P[j]).length := by rw [hx]; rfl
      have s1 : ((x.size : Int) < 2) = False := by simp; omega
      have s2 : 2 ≤ (x.size : Int) := by omega
      have s3 : decide (4006 < (x.size : Int)) = false := by rw [decide_eq_false_iff_not]; omega
      have s3b : x.size ≤ 4006 := by omega
      have hb0 : bt x 0 = 48 := by
        have h0 : (0 : Int).toNat < x.size := by show 0 < x.size; omega
        unfold bt
        rw [dif_pos h0]
        obtain ⟨u, r, hu⟩ := List.exists_cons_of_ne_nil (show P[j] ≠ [] by rintro e; rw [e] at g1; simp at g1)
        rw [hu] at hx g3
        subst hx
        simp at g3
        subst g3
        rfl
      have hB := bt_at x 0
      rw [hb0] at hB
      have hB0 : ∀ h : 0 < x.size, ((x[0]'h).toNat : Int) = 48 := fun h => hB h
      have HX := Aside.mk (And.intro hj1 (And.intro hj2 hx))
      have hXs : X.size ≤ 4100 := by
        rw [← ba_size, hj2]
        exact Nat.le_trans (flat_take P j) (Nat.le_trans HF.out.2.1 hsz)
      have hjj : j ≤ 4100 := by have := HPL.out; omega
      clear hb0 hx hxc hxx hcl g1 g2 g3 hxs hj1 hj2
      go_wp2
      go_roundg m
      case measure => omega
      case rel =>
        refine ⟨j + 1, X ++ x, rfl, by go_num, ⟨by have := HX.out.1; omega, ?_, rfl⟩⟩
        rw [List.take_succ_eq_append_getElem hj, List.flatten_append, ← HX.out.2.1, HX.out.2.2]
        simp
    · have hjp : P.take j = P := List.take_of_length_le (by omega)
      rw [hjp] at hj2
      obtain rfl : T = (X.size : Int) := by rw [HF.out.1, ← hj2, ba_size]
      have hXs : X.size ≤ 4100 := by
        rw [← ba_size, hj2]
        exact Nat.le_trans HF.out.2.1 hsz
      have hXt : X.size ≤ t.size := by rw [← ba_size, hj2]; exact HF.out.2.1
      have hex : t.extract 0 X.size = X := by
        have h1 := HF.out.2.2.1
        rw [← hj2, ba_size] at h1
        apply ByteArray.ext
        apply Array.ext'
        rw [← h1]
        simp
      have H6 := Aside.mk HF.out.2.2.2.2
      rw [← hj2, ba_size] at H6
      have hjn : ¬ (j : Int) < (P.length : Int) := by omega
      clear hjp hj2 hj1 HPL
      go_wp2_with fail
      refine (offset F3.out).mono ?_
      rintro e w4 ⟨rfl, hb⟩
      have B4 := Aside.mk (below_then B3.out hb)
      have G4 := Aside.mk (G3.out.below hb)
      have F4 := Aside.mk (F3.out.below hb)
      clear hb
      go_wp2_with fail
      refine ((show stateOf [] E = 2 from if_pos hE) ▸ state F4.out G4.out).mono ?_
      rintro e w5 ⟨rfl, hb⟩
      have B5 := Aside.mk (below_then B4.out hb)
      have G5 := Aside.mk (G4.out.below hb)
      have F5 := Aside.mk (F4.out.below hb)
      clear hb
      go_wp2_with fail
      refine (kept F5.out).mono ?_
      rintro e w6 ⟨rfl, hb⟩
      have B6 := Aside.mk (below_then B5.out hb)
      have G6 := Aside.mk (G5.out.below hb)
      have F6 := Aside.mk (F5.out.below hb)
      clear hb
      go_wp2
      go_ret
      exact ⟨rfl, B6.out⟩

set_option maxRecDepth 100000 in
set_option maxHeartbeats 4000000 in
theorem whole_clean (s : ByteArray) (w : World) (p : Nat → Addr) (hG : Globs w p) (hs : s.size ≤ maxLen) (P : List (List UInt8)) (K : List UInt8) (T E : Int) (hR : feedSt [] 0 0 (cutS s) = (P, K, T, E)) (hE : E = 0) (hK : K = []) :
    Calls Tryd.prog 5 #[.string s] w fun e w' => e = .returned (.bool true) ∧ Below w.heap.size w w' := by
  obtain ⟨f1, f2, f3, f4, f5, f6⟩ := clean_facts _ P K T E hR
  have hsz := cutS_size s
  subst hE
  subst hK
  have HF := Aside.mk (And.intro f1 (And.intro f2 (And.intro f3 (And.intro f4 f6))))
  have HR := Aside.mk hR
  clear f1 f2 f3 f4 f5 f6 hR
  go_enter Tryd.func5, Tryd.ntmps5
  go_wp2_with fail
  refine (shown w p hG).mono ?_
  rintro e w1 ⟨rfl, hb1⟩
  have B1 := Aside.mk hb1
  have G1 := Aside.mk (hG.below hb1)
  clear hb1 hG
  go_wp2_with fail
  refine (cut s w1 hs).mono ?_
  rintro e w1 ⟨rfl, rfl⟩
  generalize cutS s = t at HR HF hsz ⊢
  go_wp2_with fail
  refine (new w1 p (fun _ => True)).mono ?_
  rintro e w2 ⟨rfl, hb, hF, hlt⟩
  have hgf := G1.out.free (Nat.le_refl w1.heap.size)
  have B2 := Aside.mk (below_then B1.out hb)
  have hle : w.heap.size ≤ w1.heap.size := B1.out.size
  have G2 := Aside.mk (G1.out.below hb)
  have F2 := Aside.mk hF
  clear hb hF
  go_wp2_with fail
  refine (feed F2.out G2.out t (by simp; omega) (by decide) (by decide) hgf (fun _ _ => trivial)).mono ?_
  rw [HR.out]
  rintro e w3 ⟨v3, rfl, hr, hg, hF⟩
  obtain ⟨A3, cp3, rfl⟩ := hr.len
  have B3 := Aside.mk (show Below w.heap.size w w3 from B2.out.grown hg B2.out.size (by intro k hk; cases hk; exact hle))
  have G3 := Aside.mk (G2.out.grown hgf hg)
  have F3 := Aside.mk hF
  have R3 := Aside.mk hr
  clear hr hg hF
  have hpl : (txt P).length = P.length := by simp [txt]
  rw [hpl]
  clear hpl
  go_wp2
  have HPL := Aside.mk (Nat.le_trans (flat_len P HF.out.2.2.2.1) (Nat.le_trans HF.out.2.1 hsz))
  go_loopg [7, 8] P.length (fun gk v7 v8 wr => ∃ (j : Nat) (X : ByteArray), v7 = .string X ∧ v8 = .int .i64 j ∧ Aside (j + gk = P.length ∧ X.data.toList = (P.take j).flatten ∧ w3 = wr))
  case atStart => exact ⟨0, ⟨#[]⟩, rfl, rfl, ⟨by simp, by simp, rfl⟩⟩
  case round =>
    obtain ⟨j, X, rfl, rfl, HJ⟩ := hrel
    obtain ⟨hj1, hj2, rfl⟩ := HJ.out
    clear HJ
    by_cases hj : j < P.length
    · obtain ⟨m, rfl⟩ : ∃ m, gk = m + 1 := ⟨gk - 1, by omega⟩
      obtain ⟨x, hx⟩ : ∃ x : ByteArray, x = ⟨(P[j]).toArray⟩ := ⟨_, rfl⟩
      have hxc : (txt P)[j]? = some x := by rw [txt, List.getElem?_map, List.getElem?_eq_getElem hj, hx]; rfl
      obtain ⟨A, c, e, hxx⟩ := R3.out
      obtain ⟨b, o, rfl, _, hcl⟩ := hxx (by intro e; rw [e] at hxc; simp at hxc)
      simp only [Value.slice.injEq] at e
      obtain ⟨rfl, _, rfl⟩ := e
      have cx := hcl j x hxc
      obtain ⟨g1, g2, g3⟩ := HF.out.2.2.2.1 P[j] (List.getElem_mem hj)
      have hxs : x.size = (P[j]).length := by rw [hx]; rfl
      have s1 : ((x.size : Int) < 2) = False := by simp; omega
      have s2 : 2 ≤ (x.size : Int) := by omega
      have s3 : decide (4006 < (x.size : Int)) = false := by rw [decide_eq_false_iff_not]; omega
      have s3b : x.size ≤ 4006 := by omega
      have hb0 : bt x 0 = 48 := by
        have h0 : (0 : Int).toNat < x.size := by show 0 < x.size; omega
        unfold bt
        rw [dif_pos h0]
        obtain ⟨u, r, hu⟩ := List.exists_cons_of_ne_nil (show P[j] ≠ [] by rintro e; rw [e] at g1; simp at g1)
        rw [hu] at hx g3
        subst hx
        simp at g3
        subst g3
        rfl
      have hB := bt_at x 0
      rw [hb0] at hB
      have hB0 : ∀ h : 0 < x.size, ((x[0]'h).toNat : Int) = 48 := fun h => hB h
      have HX := Aside.mk (And.intro hj1 (And.intro hj2 hx))
      have hXs : X.size ≤ 4100 := by
        rw [← ba_size, hj2]
        exact Nat.le_trans (flat_take P j) (Nat.le_trans HF.out.2.1 hsz)
      have hjj : j ≤ 4100 := by have := HPL.out; omega
      clear hb0 hx hxc hxx hcl g1 g2 g3 hxs hj1 hj2
      go_wp2
      go_roundg m
      case measure => omega
      case rel =>
        refine ⟨j + 1, X ++ x, rfl, by go_num, ⟨by have := HX.out.1; omega, ?_, rfl⟩⟩
        rw [List.take_succ_eq_append_getElem hj, List.flatten_append, ← HX.out.2.1, HX.out.2.2]
        simp
    · have hjp : P.take j = P := List.take_of_length_le (by omega)
      rw [hjp] at hj2
      obtain rfl : T = (X.size : Int) := by rw [HF.out.1, ← hj2, ba_size]
      have hXs : X.size ≤ 4100 := by
        rw [← ba_size, hj2]
        exact Nat.le_trans HF.out.2.1 hsz
      have hXt : X.size ≤ t.size := by rw [← ba_size, hj2]; exact HF.out.2.1
      have hex : t.extract 0 X.size = X := by
        have h1 := HF.out.2.2.1
        rw [← hj2, ba_size] at h1
        apply ByteArray.ext
        apply Array.ext'
        rw [← h1]
        simp
      have H6 := Aside.mk HF.out.2.2.2.2
      rw [← hj2, ba_size] at H6
      have hjn : ¬ (j : Int) < (P.length : Int) := by omega
      clear hjp hj2 hj1 HPL
      go_wp2_with fail
      refine (offset F3.out).mono ?_
      rintro e w4 ⟨rfl, hb⟩
      have B4 := Aside.mk (below_then B3.out hb)
      have G4 := Aside.mk (G3.out.below hb)
      have F4 := Aside.mk (F3.out.below hb)
      clear hb
      go_wp2_with fail
      refine ((show stateOf [] 0 = 0 from rfl) ▸ state F4.out G4.out).mono ?_
      rintro e w5 ⟨rfl, hb⟩
      have B5 := Aside.mk (below_then B4.out hb)
      have G5 := Aside.mk (G4.out.below hb)
      have F5 := Aside.mk (F4.out.below hb)
      clear hb
      go_wp2_with fail
      refine (kept F5.out).mono ?_
      rintro e w6 ⟨rfl, hb⟩
      have B6 := Aside.mk (below_then B5.out hb)
      have G6 := Aside.mk (G5.out.below hb)
      have F6 := Aside.mk (F5.out.below hb)
      clear hb
      have h7 : (X.size : Int) + (0 : Int) = (t.size : Int) := by have h9 := H6.out (by first | rfl | trivial); simp at h9; omega
      go_wp2_with fail
      refine ((show stateOf [] 0 = 0 from rfl) ▸ state F6.out G6.out).mono ?_
      rintro e w7 ⟨rfl, hb⟩
      have B7 := Aside.mk (below_then B6.out hb)
      have F7 := Aside.mk (F6.out.below hb)
      clear hb
      go_wp2_with fail
      refine (kept F7.out).mono ?_
      rintro e w8 ⟨rfl, hb⟩
      have B8 := Aside.mk (below_then B7.out hb)
      clear hb
      go_wp2
      go_ret
      exact ⟨rfl, B8.out⟩

set_option maxRecDepth 100000 in
set_option maxHeartbeats 4000000 in
theorem whole_more (s : ByteArray) (w : World) (p : Nat → Addr) (hG : Globs w p) (hs : s.size ≤ maxLen) (P : List (List UInt8)) (K : List UInt8) (T E : Int) (hR : feedSt [] 0 0 (cutS s) = (P, K, T, E)) (hE : E = 0) (hK : K ≠ []) :
    Calls Tryd.prog 5 #[.string s] w fun e w' => e = .returned (.bool true) ∧ Below w.heap.size w w' := by
  obtain ⟨f1, f2, f3, f4, f5, f6⟩ := clean_facts _ P K T E hR
  have hsz := cutS_size s
  subst hE
  have hKl : 0 < K.length := List.length_pos_iff.2 hK
  have HK := Aside.mk hK
  clear hK
  have q1 : ((K.length : Int) == 0) = false := by rw [beq_eq_false_iff_ne]; omega
  have HF := Aside.mk (And.intro f1 (And.intro f2 (And.intro f3 (And.intro f4 f6))))
  have HR := Aside.mk hR
  clear f1 f2 f3 f4 f5 f6 hR
  go_enter Tryd.func5, Tryd.ntmps5
  go_wp2_with fail
  refine (shown w p hG).mono ?_
  rintro e w1 ⟨rfl, hb1⟩
  have B1 := Aside.mk hb1
  have G1 := Aside.mk (hG.below hb1)
  clear hb1 hG
  go_wp2_with fail
  refine (cut s w1 hs).mono ?_
  rintro e w1 ⟨rfl, rfl⟩
  generalize cutS s = t at HR HF hsz ⊢
  go_wp2_with fail
  refine (new w1 p (fun _ => True)).mono ?_
  rintro e w2 ⟨rfl, hb, hF, hlt⟩
  have hgf := G1.out.free (Nat.le_refl w1.heap.size)
  have B2 := Aside.mk (below_then B1.out hb)
  have hle : w.heap.size ≤ w1.heap.size := B1.out.size
  have G2 := Aside.mk (G1.out.below hb)
  have F2 := Aside.mk hF
  clear hb hF
  go_wp2_with fail
  refine (feed F2.out G2.out t (by simp; omega) (by decide) (by decide) hgf (fun _ _ => trivial)).mono ?_
  rw [HR.out]
  rintro e w3 ⟨v3, rfl, hr, hg, hF⟩
  obtain ⟨A3, cp3, rfl⟩ := hr.len
  have B3 := Aside.mk (show Below w.heap.size w w3 from B2.out.grown hg B2.out.size (by intro k hk; cases hk; exact hle))
  have G3 := Aside.mk (G2.out.grown hgf hg)
  have F3 := Aside.mk hF
  have R3 := Aside.mk hr
  clear hr hg hF
  have hpl : (txt P).length = P.length := by simp [txt]
  rw [hpl]
  clear hpl
  go_wp2
  have HPL := Aside.mk (Nat.le_trans (flat_len P HF.out.2.2.2.1) (Nat.le_trans HF.out.2.1 hsz))
  go_loopg [7, 8] P.length (fun gk v7 v8 wr => ∃ (j : Nat) (X : ByteArray), v7 = .string X ∧ v8 = .int .i64 j ∧ Aside (j + gk = P.length ∧ X.data.toList = (P.take j).flatten ∧ w3 = wr))
  case atStart => exact ⟨0, ⟨#[]⟩, rfl, rfl, ⟨by simp, by simp, rfl⟩⟩
  case round =>
    obtain ⟨j, X, rfl, rfl, HJ⟩ := hrel
    obtain ⟨hj1, hj2, rfl⟩ := HJ.out
    clear HJ
    by_cases hj : j < P.length
    · obtain ⟨m, rfl⟩ : ∃ m, gk = m + 1 := ⟨gk - 1, by omega⟩
      obtain ⟨x, hx⟩ : ∃ x : ByteArray, x = ⟨(P[j]).toArray⟩ := ⟨_, rfl⟩
      have hxc : (txt P)[j]? = some x := by rw [txt, List.getElem?_map, List.getElem?_eq_getElem hj, hx]; rfl
      obtain ⟨A, c, e, hxx⟩ := R3.out
      obtain ⟨b, o, rfl, _, hcl⟩ := hxx (by intro e; rw [e] at hxc; simp at hxc)
      simp only [Value.slice.injEq] at e
      obtain ⟨rfl, _, rfl⟩ := e
      have cx := hcl j x hxc
      obtain ⟨g1, g2, g3⟩ := HF.out.2.2.2.1 P[j] (List.getElem_mem hj)
      have hxs : x.size = (P[j]).length := by rw [hx]; rfl
      have s1 : ((x.size : Int) < 2) = False := by simp; omega
      have s2 : 2 ≤ (x.size : Int) := by omega
      have s3 : decide (4006 < (x.size : Int)) = false := by rw [decide_eq_false_iff_not]; omega
      have s3b : x.size ≤ 4006 := by omega
      have hb0 : bt x 0 = 48 := by
        have h0 : (0 : Int).toNat < x.size := by show 0 < x.size; omega
        unfold bt
        rw [dif_pos h0]
        obtain ⟨u, r, hu⟩ := List.exists_cons_of_ne_nil (show P[j] ≠ [] by rintro e; rw [e] at g1; simp at g1)
        rw [hu] at hx g3
        subst hx
        simp at g3
        subst g3
        rfl
      have hB := bt_at x 0
      rw [hb0] at hB
      have hB0 : ∀ h : 0 < x.size, ((x[0]'h).toNat : Int) = 48 := fun h => hB h
      have HX := Aside.mk (And.intro hj1 (And.intro hj2 hx))
      have hXs : X.size ≤ 4100 := by
        rw [← ba_size, hj2]
        exact Nat.le_trans (flat_take P j) (Nat.le_trans HF.out.2.1 hsz)
      have hjj : j ≤ 4100 := by have := HPL.out; omega
      clear hb0 hx hxc hxx hcl g1 g2 g3 hxs hj1 hj2
      go_wp2
      go_roundg m
      case measure => omega
      case rel =>
        refine ⟨j + 1, X ++ x, rfl, by go_num, ⟨by have := HX.out.1; omega, ?_, rfl⟩⟩
        rw [List.take_succ_eq_append_getElem hj, List.flatten_append, ← HX.out.2.1, HX.out.2.2]
        simp
    · have hjp : P.take j = P := List.take_of_length_le (by omega)
      rw [hjp] at hj2
      obtain rfl : T = (X.size : Int) := by rw [HF.out.1, ← hj2, ba_size]
      have hXs : X.size ≤ 4100 := by
        rw [← ba_size, hj2]
        exact Nat.le_trans HF.out.2.1 hsz
      have hXt : X.size ≤ t.size := by rw [← ba_size, hj2]; exact HF.out.2.1
      have hex : t.extract 0 X.size = X := by
        have h1 := HF.out.2.2.1
        rw [← hj2, ba_size] at h1
        apply ByteArray.ext
        apply Array.ext'
        rw [← h1]
        simp
      have H6 := Aside.mk HF.out.2.2.2.2
      rw [← hj2, ba_size] at H6
      have hjn : ¬ (j : Int) < (P.length : Int) := by omega
      clear hjp hj2 hj1 HPL
      go_wp2_with fail
      refine (offset F3.out).mono ?_
      rintro e w4 ⟨rfl, hb⟩
      have B4 := Aside.mk (below_then B3.out hb)
      have G4 := Aside.mk (G3.out.below hb)
      have F4 := Aside.mk (F3.out.below hb)
      clear hb
      go_wp2_with fail
      refine ((show stateOf K 0 = 1 from by unfold stateOf; rw [if_neg (by simp), if_neg HK.out]) ▸ state F4.out G4.out).mono ?_
      rintro e w5 ⟨rfl, hb⟩
      have B5 := Aside.mk (below_then B4.out hb)
      have G5 := Aside.mk (G4.out.below hb)
      have F5 := Aside.mk (F4.out.below hb)
      clear hb
      go_wp2_with fail
      refine (kept F5.out).mono ?_
      rintro e w6 ⟨rfl, hb⟩
      have B6 := Aside.mk (below_then B5.out hb)
      have G6 := Aside.mk (G5.out.below hb)
      have F6 := Aside.mk (F5.out.below hb)
      clear hb
      have h7 : (X.size : Int) + (K.length : Int) = (t.size : Int) := by have h9 := H6.out (by first | rfl | trivial); omega
      go_wp2_with fail
      refine ((show stateOf K 0 = 1 from by unfold stateOf; rw [if_neg (by simp), if_neg HK.out]) ▸ state F6.out G6.out).mono ?_
      rintro e w7 ⟨rfl, hb⟩
      have B7 := Aside.mk (below_then B6.out hb)
      have F7 := Aside.mk (F6.out.below hb)
      clear hb
      go_wp2_with fail
      refine (kept F7.out).mono ?_
      rintro e w8 ⟨rfl, hb⟩
      have B8 := Aside.mk (below_then B7.out hb)
      clear hb
      go_wp2
      go_ret
      exact ⟨rfl, B8.out⟩
theorem whole (s : ByteArray) (w : World) (p : Nat → Addr) (hG : Globs w p) (hs : s.size ≤ maxLen) :
    Calls Tryd.prog 5 #[.string s] w fun e w' => e = .returned (.bool true) ∧ Below w.heap.size w w' := by
  obtain ⟨P, K, T, E, hR⟩ : ∃ P K T E, feedSt [] 0 0 (cutS s) = (P, K, T, E) := ⟨_, _, _, _, rfl⟩
  by_cases hE : E = 0
  · by_cases hK : K = []
    · exact whole_clean s w p hG hs P K T E hR hE hK
    · exact whole_more s w p hG hs P K T E hR hE hK
  · exact whole_bad s w p hG hs P K T E hR hE
end Go.Proofs.YtglmnglaliljdaaDoor.Frame
