/- latinerlaw14.FrameLarge answers true. Conditions: the package's variables hold their sentinels. -/
import Derived.Test.YtglmnglaliljdaaDoorFrameQ
import Derived.Test.YtglmnglaliljdaaDoorFrameW
namespace Go.Proofs.YtglmnglaliljdaaDoor.Frame
open Go.RowKit Size
set_option linter.unusedVariables false
set_option maxRecDepth 100000 in
set_option maxHeartbeats 2000000 in
theorem large_bad (n : Int) (s : ByteArray) (w : World) (p : Nat → Addr) (hG : Globs w p) (hs : s.size ≤ maxLen) (hn : n < 0 ∨ 16777215 < n) :
    Calls Tryd.prog 6 #[.int .i64 n, .string s] w fun e w' => e = .returned (.bool true) ∧ Below w.heap.size w w' := by
  have HN := Aside.mk hn
  clear hn
  go_enter Tryd.func6, Tryd.ntmps6
  go_wp2_with fail
  refine (shown w p hG).mono ?_
  rintro e w1 ⟨rfl, hb1⟩
  have B1 := Aside.mk hb1
  have G1 := Aside.mk (hG.below hb1)
  clear hb1 hG
  go_wp2_with fail
  refine (cut s w1 hs).mono ?_
  rintro e w1 ⟨rfl, rfl⟩
  generalize cutS s = t
  go_wp2_with fail
  refine (encode_bad n w1 p G1.out HN.out).mono ?_
  rintro e w2 ⟨rfl, hb⟩
  have B2 := Aside.mk (below_then B1.out hb)
  clear hb
  go_wp2
  go_ret
  exact ⟨rfl, B2.out⟩
set_option maxRecDepth 100000 in
set_option maxHeartbeats 4000000 in
theorem large_less (n : Int) (s : ByteArray) (w : World) (p : Nat → Addr) (hG : Globs w p) (hs : s.size ≤ maxLen) (h0 : 0 ≤ n) (h4 : n ≤ 4000) (P : List (List UInt8)) (K : List UInt8) (T : Int)
    (hR : feedSt [] 0 0 (⟨#[48]⟩ ++ ⟨(encL n).toArray⟩) = (P, K, T, 0)) (hP : (n == 0) = ((P.length : Int) == 1)) :
    Calls Tryd.prog 6 #[.int .i64 n, .string s] w fun e w' => e = .returned (.bool true) ∧ Below w.heap.size w w' := by
  have q4 : decide (n ≤ 4000) = true := by simpa using h4
  have HR := Aside.mk hR
  have HP := Aside.mk hP
  have HL := Aside.mk (encL_len n h0 (by omega))
  clear hR hP
  go_enter Tryd.func6, Tryd.ntmps6
  go_wp2_with fail
  refine (shown w p hG).mono ?_
  rintro e w1 ⟨rfl, hb1⟩
  have B1 := Aside.mk hb1
  have G1 := Aside.mk (hG.below hb1)
  clear hb1 hG
  go_wp2_with fail
  refine (cut s w1 hs).mono ?_
  rintro e w1 ⟨rfl, rfl⟩
  generalize cutS s = t
  go_wp2_with fail
  refine (encode_ok n w1 p G1.out h0 (by omega)).mono ?_
  rintro e w2 ⟨rfl, hb⟩
  have hsz : (⟨#[48]⟩ ++ ⟨(encL n).toArray⟩ : ByteArray).size ≤ 100 := by
    have h1 : (⟨(encL n).toArray⟩ : ByteArray).size = (encL n).length := by show (encL n).toArray.size = _; simp
    rw [ByteArray.size_append, h1]
    have := HL.out
    show 1 + _ ≤ 100
    omega
  have hsz2 : (⟨(encL n).toArray⟩ : ByteArray).size ≤ 100 := by
    have h1 : (⟨(encL n).toArray⟩ : ByteArray).size = (encL n).length := by show (encL n).toArray.size = _; simp
    have := HL.out
    omega
  have HSZ := Aside.mk hsz
  have B2 := Aside.mk (below_then B1.out hb)
  have G2 := Aside.mk (G1.out.below hb)
  have s12 : w.heap.size ≤ w2.heap.size := B2.out.size
  generalize (⟨(encL n).toArray⟩ : ByteArray) = k at HR HSZ hsz2 ⊢
  clear hb hsz
  go_wp2_with fail
  refine (new w2 p (fun _ => True)).mono ?_
  rintro e w3 ⟨rfl, hb, hF, hlt⟩
  have hgf := G2.out.free (Nat.le_refl w2.heap.size)
  have B3 := Aside.mk (below_then B2.out hb)
  have G3 := Aside.mk (G2.out.below hb)
  have F3 := Aside.mk hF
  clear hb hF
  go_wp2_with fail
  refine (feed F3.out G3.out _ (by have := HSZ.out; simp only [List.length_nil]; omega) (by decide) (by decide) hgf (fun _ _ => trivial)).mono ?_
  rw [HR.out]
  rintro e w4 ⟨v4, rfl, hr, hg, hF⟩
  obtain ⟨A4, cp4, rfl⟩ := hr.len
  have B4 := Aside.mk (show Below w.heap.size w w4 from B3.out.grown hg B3.out.size (by intro k hk; cases hk; exact s12))
  have G4 := Aside.mk (G3.out.grown hgf hg)
  have F4 := Aside.mk hF
  clear hr hg hF
  have hpl : (txt P).length = P.length := by simp [txt]
  rw [hpl]
  clear hpl
  by_cases hz : n = 0
  · subst hz
    have hp1 : ((P.length : Int) == 1) = true := by rw [← HP.out]; rfl
    go_wp2_with fail
    refine (error F4.out G4.out).mono ?_
    rintro e w5 ⟨rfl, hb⟩
    have B5 := Aside.mk (below_then B4.out hb)
    clear hb
    go_wp2
    go_ret
    exact ⟨rfl, B5.out⟩
  · have hz1 : (n == 0) = false := by simp [hz]
    have hp1 : ((P.length : Int) == 1) = false := by rw [← HP.out]; exact hz1
    go_wp2_with fail
    refine (error F4.out G4.out).mono ?_
    rintro e w5 ⟨rfl, hb⟩
    have B5 := Aside.mk (below_then B4.out hb)
    clear hb
    go_wp2
    go_ret
    exact ⟨rfl, B5.out⟩
set_option maxRecDepth 100000 in
set_option maxHeartbeats 4000000 in
theorem large_more (n : Int) (s : ByteArray) (w : World) (p : Nat → Addr) (hG : Globs w p) (hs : s.size ≤ maxLen) (h4 : 4000 < n) (h5 : n ≤ 16777215)
    (hR : feedSt [] 0 0 (⟨#[48]⟩ ++ ⟨(encL n).toArray⟩) = ([], [], 0, 131)) :
    Calls Tryd.prog 6 #[.int .i64 n, .string s] w fun e w' => e = .returned (.bool true) ∧ Below w.heap.size w w' := by
  have q4 : decide (n ≤ 4000) = false := by simp; omega
  have HR := Aside.mk hR
  have HL := Aside.mk (encL_len n (by omega) (by omega))
  have hsz := cutS_size s
  clear hR
  go_enter Tryd.func6, Tryd.ntmps6
  go_wp2_with fail
  refine (shown w p hG).mono ?_
  rintro e w1 ⟨rfl, hb1⟩
  have B1 := Aside.mk hb1
  have G1 := Aside.mk (hG.below hb1)
  clear hb1 hG
  go_wp2_with fail
  refine (cut s w1 hs).mono ?_
  rintro e w1 ⟨rfl, rfl⟩
  generalize cutS s = t at hsz ⊢
  go_wp2_with fail
  refine (encode_ok n w1 p G1.out (by omega) (by omega)).mono ?_
  rintro e w2 ⟨rfl, hb⟩
  have hsz1 : (⟨#[48]⟩ ++ ⟨(encL n).toArray⟩ : ByteArray).size ≤ 100 := by
    have h1 : (⟨(encL n).toArray⟩ : ByteArray).size = (encL n).length := by show (encL n).toArray.size = _; simp
    rw [ByteArray.size_append, h1]
    have := HL.out
    show 1 + _ ≤ 100
    omega
  have hsz2 : (⟨(encL n).toArray⟩ : ByteArray).size ≤ 100 := by
    have h1 : (⟨(encL n).toArray⟩ : ByteArray).size = (encL n).length := by show (encL n).toArray.size = _; simp
    have := HL.out
    omega
  have HSZ := Aside.mk hsz1
  have B2 := Aside.mk (below_then B1.out hb)
  have G2 := Aside.mk (G1.out.below hb)
  have s12 : w.heap.size ≤ w2.heap.size := B2.out.size
  generalize (⟨(encL n).toArray⟩ : ByteArray) = k at HR HSZ hsz2 ⊢
  clear hb hsz1
  go_wp2_with fail
  refine (new w2 p (fun _ => True)).mono ?_
  rintro e w3 ⟨rfl, hb, hF, hlt⟩
  have hgf := G2.out.free (Nat.le_refl w2.heap.size)
  have B3 := Aside.mk (below_then B2.out hb)
  have G3 := Aside.mk (G2.out.below hb)
  have F3 := Aside.mk hF
  clear hb hF
  go_wp2_with fail
  refine (feed F3.out G3.out _ (by have := HSZ.out; simp only [List.length_nil]; omega) (by decide) (by decide) hgf (fun _ _ => trivial)).mono ?_
  rw [HR.out]
  rintro e w4 ⟨v4, rfl, hr, hg, hF⟩
  obtain ⟨A4, cp4, rfl⟩ := hr.len
  have B4 := Aside.mk (show Below w.heap.size w w4 from B3.out.grown hg B3.out.size (by intro k hk; cases hk; exact s12))
  have G4 := Aside.mk (G3.out.grown hgf hg)
  have F4 := Aside.mk hF
  have q1 : (txt []).length = 0 := rfl
  clear hr hg hF
  go_wp2_with fail
  refine (feed F4.out G4.out t (by simp only [List.length_nil]; omega) (by decide) (by decide) hgf (fun _ _ => trivial)).mono ?_
  rw [show feedSt [] 0 131 t = ([], [], 0, 131) from rfl]
  rintro e w5 ⟨v5, rfl, hr, hg, hF⟩
  obtain ⟨A5, cp5, rfl⟩ := hr.len
  have B5 := Aside.mk (show Below w.heap.size w w5 from B4.out.grown hg B4.out.size (by intro k hk; cases hk; exact s12))
  have G5 := Aside.mk (G4.out.grown hgf hg)
  have F5 := Aside.mk hF
  clear hr hg hF
  go_wp2_with fail
  refine (kept F5.out).mono ?_
  rintro e w6 ⟨rfl, hb⟩
  have G6 := Aside.mk (G5.out.below hb)
  have B6 := Aside.mk (below_then B5.out hb)
  have F6 := Aside.mk (F5.out.below hb)
  clear hb
  go_wp2_with fail
  refine (offset F6.out).mono ?_
  rintro e w7 ⟨rfl, hb⟩
  have G7 := Aside.mk (G6.out.below hb)
  have B7 := Aside.mk (below_then B6.out hb)
  have F7 := Aside.mk (F6.out.below hb)
  clear hb
  go_wp2_with fail
  refine ((show stateOf [] 131 = 2 by decide) ▸ state F7.out G7.out).mono ?_
  rintro e w8 ⟨rfl, hb⟩
  have B8 := Aside.mk (below_then B7.out hb)
  clear hb
  go_wp2
  go_ret
  exact ⟨rfl, B8.out⟩
theorem large (n : Int) (s : ByteArray) (w : World) (p : Nat → Addr) (hG : Globs w p) (hs : s.size ≤ maxLen) :
    Calls Tryd.prog 6 #[.int .i64 n, .string s] w fun e w' => e = .returned (.bool true) ∧ Below w.heap.size w w' := by
  by_cases hb : n < 0 ∨ 16777215 < n
  · exact large_bad n s w p hG hs hb
  · have hF := fed_enc n (by omega) (by omega) (⟨#[48]⟩ ++ ⟨(encL n).toArray⟩) (by simp)
    by_cases hz : n = 0
    · rw [if_pos hz] at hF
      exact large_less n s w p hG hs (by omega) (by omega) _ _ _ hF (by rw [hz]; rfl)
    · rw [if_neg hz] at hF
      by_cases h4 : n ≤ 4000
      · rw [if_pos h4] at hF
        exact large_less n s w p hG hs (by omega) h4 _ _ _ hF (by simp [hz])
      · rw [if_neg h4] at hF
        exact large_more n s w p hG hs (by omega) (by omega) hF
end Go.Proofs.YtglmnglaliljdaaDoor.Frame
