/- latinerlaw14.FrameCuts answers true. Conditions: the package's variables hold their sentinels; the numbers read. -/
import Derived.Test.YtglmnglaliljdaaDoorFrameR
import Derived.Test.YtglmnglaliljdaaDoorFrameS
import Derived.Test.YtglmnglaliljdaaDoorFrameW
import Derived.Test.YtglmnglaliljdaaDoorMinMax
namespace Go.Proofs.YtglmnglaliljdaaDoor.Frame
open Go.RowKit Size
set_option linter.unusedVariables false
/-- a slice of ints that reads as a list -/
def RI (w : World) (v : Value) (zs : List Int) : Prop :=
  ∃ A c, v = .slice A zs.length c ∧ (zs ≠ [] → ∃ ad, A = some ad ∧ ∀ j z, zs[j]? = some z → w.cell? (ad.add j) = some (.int .i64 z))
theorem extract_two (t : ByteArray) (a n : Nat) (h : a + n ≤ t.size) : t.extract 0 a ++ t.extract a (a + n) = t.extract 0 (a + n) := by
  rw [ByteArray.extract_append_extract]
  congr 1 <;> omega
theorem fed_code (t : ByteArray) : ∀ a c, c ≠ 0 → ∀ l, (feedSt l a c t).2.2.2 = c := by
  intro a c hc l
  unfold feedSt
  rw [if_pos hc]
set_option maxRecDepth 100000 in
set_option maxHeartbeats 8000000 in
theorem cuts (s : ByteArray) (v : Value) (zs : List Int) (w : World) (p : Nat → Addr) (hG : Globs w p) (hs : s.size ≤ maxLen) (hv : RI w v zs) :
    Calls Tryd.prog 4 #[.string s, v] w fun e w' => e = .returned (.bool true) ∧ Below w.heap.size w w' := by
  obtain ⟨A, c, rfl, hzs⟩ := hv
  have HZ := Aside.mk hzs
  have hsz := cutS_size s
  clear hzs
  go_enter Tryd.func4, Tryd.ntmps4
  go_wp2_with fail
  refine (shown w p hG).mono ?_
  rintro e w1 ⟨rfl, hb1⟩
  have B1 := Aside.mk hb1
  have G1 := Aside.mk (hG.below hb1)
  clear hb1 hG
  go_wp2_with fail
  refine (cut s w1 hs).mono ?_
  rintro e w1 ⟨rfl, rfl⟩
  generalize cutS s = t at hsz ⊢
  go_wp2_with fail
  refine (new w1 p (fun _ => False)).mono ?_
  rintro e w2 ⟨rfl, hb, hF, hlt⟩
  have hs1 : w.heap.size ≤ w1.heap.size := B1.out.size
  have hgf := G1.out.free (Nat.le_refl w1.heap.size)
  have B2 := Aside.mk (below_then B1.out hb)
  have G2 := Aside.mk (G1.out.below hb)
  have F2 := Aside.mk hF
  clear hb hF
  go_wp2_with fail
  refine (new w2 p (fun _ => False)).mono ?_
  rintro e w3 ⟨rfl, hb, hF, hlt3⟩
  have hgg := G2.out.free (Nat.le_refl w2.heap.size)
  have B3 := Aside.mk (below_then B2.out hb)
  have G3 := Aside.mk (G2.out.below hb)
  have F3 := Aside.mk ((F2.out.below hb).mono (av' := fun b => b ≠ w2.heap.size) (fun b h => h.elim))
  have E3 := Aside.mk hF
  clear hb hF
  go_wp2_with fail
  refine (feed F3.out G3.out t (by simp only [List.length_nil]; omega) (by decide) (by decide) hgf (fun k hk => by omega)).mono ?_
  rintro e w4 ⟨va, rfl, hr, hg, hF⟩
  have B4 := Aside.mk (show Below w.heap.size w w4 from B3.out.grown hg B3.out.size (by intro k hk; cases hk; exact hs1))
  have G4 := Aside.mk (G3.out.grown hgf hg)
  have F4 := Aside.mk hF
  have R4 := Aside.mk hr
  have hs4 : w3.heap.size ≤ w4.heap.size := hg.size
  have E4 := Aside.mk (E3.out.grown hg (by simp; omega) (fun b h => h.elim))
  clear hr hg hF
  have KK : min zs.length 30 ≤ 30 := Nat.min_le_right _ _
  generalize hKd : min zs.length 30 = K at KK
  have HK := Aside.mk hKd
  clear hKd
  go_wp2_with fail
  go_loopg [10, 11, 12, 13] K (fun gk v10 v11 v12 v13 wr => ∃ (k at_ : Nat) (cg : Int), v11 = .int .i64 cg ∧ v12 = .int .i64 at_ ∧ v13 = .int .i64 k ∧ at_ ≤ t.size ∧ Aside (∃ Pg lg ag, k + gk = K ∧ feedSt [] 0 0 (t.extract 0 at_) = (Pg, lg, ag, cg) ∧ w4.grownBy wr (some w2.heap.size) ∧ FS wr (fun b => some b ≠ v10.ownBlock) w2.heap.size lg ag cg p ∧ Own wr w4.heap.size v10 (txt Pg) ∧ Globs wr p))
  case atStart =>
    have h0 : t.extract 0 0 = ⟨#[]⟩ := by simp; rfl
    exact ⟨0, 0, 0, rfl, rfl, rfl, Nat.zero_le _, ⟨[], [], 0, by omega, by rw [h0]; decide, grown_refl _ _, E4.out.mono (fun b h => h.elim), World.ownsRow_nil _ _ _ _, G4.out⟩⟩
  case round =>
    obtain ⟨k, at_, cg, rfl, rfl, rfl, hat, HI⟩ := hrel
    obtain ⟨Pg, lg, ag, i1, i2, i3, i4, i5, i6⟩ := HI.out
    clear HI
    have I2 := Aside.mk i2
    have I3 := Aside.mk i3
    have I4 := Aside.mk i4
    have I5 := Aside.mk i5
    have I6 := Aside.mk i6
    have HCF := Aside.mk (clean_facts _ _ _ _ _ i2)
    clear i2 i3 i4 i5 i6
    have hex : (t.extract 0 at_).size = at_ := by rw [ByteArray.size_extract]; omega
    have hPl : Pg.length ≤ at_ := by
      have h1 := HCF.out
      have h2 := flat_len Pg h1.2.2.2.1
      have h3 := h1.2.1
      rw [hex] at h3
      omega
    have hll : lg.length ≤ at_ ∧ 0 ≤ ag ∧ ag ≤ at_ := by
      have h1 := HCF.out
      have h3 := h1.2.1
      rw [hex] at h3
      refine ⟨?_, by rw [h1.1]; omega, by rw [h1.1]; omega⟩
      by_cases hc : cg = 0
      · have h4 := h1.2.2.2.2.2 hc
        rw [hex] at h4
        omega
      · rw [h1.2.2.2.2.1 hc]; simp
    by_cases hk : k < K
    · obtain ⟨m, rfl⟩ : ∃ m, gk = m + 1 := ⟨gk - 1, by omega⟩
      have hkz : k < zs.length := by have := HK.out; omega
      have hk30 : (k : Int) < 30 := by omega
      have hkzi : (k : Int) < (zs.length : Int) := by omega
      obtain ⟨ad, rfl, hc⟩ := HZ.out (by intro e; rw [e] at hkz; simp at hkz)
      have ck := cell_below (hc k zs[k] (List.getElem?_eq_getElem hkz)) B4.out
      have ck := cell_grown ck I3.out (by have := World.block_lt_of_cell? w _ (hc k zs[k] (List.getElem?_eq_getElem hkz)); simp; omega)
      generalize zs[k] = z at ck
      obtain ⟨z1, hz1⟩ : ∃ z1 : Int, z1 = max z 0 := ⟨_, rfl⟩
      obtain ⟨n, hn⟩ : ∃ n : Nat, (n : Int) = min z1 ((t.size : Int) - (at_ : Int)) := ⟨(min z1 ((t.size : Int) - (at_ : Int))).toNat, by omega⟩
      have hns : at_ + n ≤ t.size := by omega
      have hnsi : (at_ : Int) + (n : Int) ≤ (t.size : Int) := by omega
      have M1 := Aside.mk hz1
      have M2 := Aside.mk hn
      clear hz1 hn hc
      go_wp2_with (first | (refine wpList_max2 rfl rfl M1.out ?_) | (refine wpList_min2 rfl rfl M2.out ?_) | (refine wpList_piece (i := at_) (j := at_ + n) Tryd.underlying9 rfl rfl rfl rfl (by push_cast; rfl) (by omega) hns ?_))
      have hxs : (t.extract at_ (at_ + n)).size ≤ 4100 := by rw [ByteArray.size_extract]; omega
      have H2 := Aside.mk (show feedSt [] 0 0 (t.extract 0 (at_ + n)) = _ from by rw [← extract_two t at_ n hns, feed_two, I2.out])
      generalize t.extract at_ (at_ + n) = x at hxs H2 ⊢
      refine (feed I4.out I6.out x (by omega) (by omega) (by omega) hgg (fun k hk e => by have := (own_base I5.out k e.symm).2; omega)).mono ?_
      obtain ⟨P2, l2, a2, c2, hR2⟩ : ∃ P2 l2 a2 c2, feedSt lg ag cg x = (P2, l2, a2, c2) := ⟨_, _, _, _, rfl⟩
      dsimp only at H2
      rw [hR2] at H2 ⊢
      dsimp only at H2 ⊢
      clear hR2
      rintro e w5 ⟨vb, rfl, hr, hg, hF⟩
      have ho5 : Own w5 w4.heap.size u10 (txt Pg) := World.ownsRow.kept I5.out hg (by
        rcases hu : u10.ownBlock with _ | b
        · exact .inl rfl
        · refine .inr (fun e => ?_)
          have := (own_base I5.out b hu).1
          simp at e
          omega)
      have hs5 : wr.heap.size ≤ w5.heap.size := hg.size
      have hs4r : w4.heap.size ≤ wr.heap.size := I3.out.size
      have J1 := Aside.mk ho5
      have J2 := Aside.mk hr
      have J3 := Aside.mk hg
      have J4 := Aside.mk hF
      have hP2 : P2.length ≤ 100000 := by
        have h1 := clean_facts _ _ _ _ _ H2.out
        have h2 := flat_len _ h1.2.2.2.1
        have h3 := h1.2.1
        rw [ByteArray.size_extract] at h3
        rw [List.length_append] at h2
        omega
      clear ho5 hr hg hF ck
      go_wp2_with (refine wpList_texts rfl (.tmp 61) (.tmp 62) rfl rfl J1.out rfl J2.out (by simp [txt]; omega) (by omega) ?_)
      intro v' w6 hown hgrow hblk
      have L1 := Aside.mk hown
      have L2 := Aside.mk hgrow
      have L3 := Aside.mk hblk
      clear hown hgrow hblk
      go_wp2
      go_roundg m
      case measure => omega
      case rel =>
        have hgr : w4.grownBy w6 (some w2.heap.size) := by
          have h1 := grown_trans I3.out J3.out
          exact ⟨L2.out.os.trans h1.os, L2.out.tape.trans h1.tape, L2.out.output.trans h1.output, Nat.le_trans h1.size L2.out.size, fun i hi hn => (L2.out.block i (Nat.lt_of_lt_of_le hi h1.size) (fun e => by have := (own_base J1.out i e.symm).1; omega)).trans (h1.block i hi hn)⟩
        refine ⟨k + 1, at_ + n, c2, rfl, by go_num, by go_num, hns, ⟨Pg ++ P2, l2, a2, by omega, H2.out, hgr, ?_, ?_, G4.out.grown hgg hgr⟩⟩
        · refine (J4.out.bound.grown L2.out (fun e => by have := (own_base J1.out _ e.symm).1; omega) (fun b hb => hb.1)).mono (fun b hb => ?_)
          rcases L3.out with e | e
          · rw [e]; exact hb.1
          · rw [e]; simp; omega
        · have := L1.out
          rwa [show txt Pg ++ txt P2 = txt (Pg ++ P2) by simp [txt]] at this
    · have hkK : k = K := by omega
      obtain ⟨x, hx⟩ : ∃ x, x = t.extract at_ t.size := ⟨_, rfl⟩
      have hxs : x.size ≤ 4100 := by rw [hx, ByteArray.size_extract]; omega
      have hfin : feedSt [] 0 0 t = (Pg ++ (feedSt lg ag cg x).1, (feedSt lg ag cg x).2) := by
        have h1 : t.extract 0 at_ ++ x = t := by
          rw [hx, ByteArray.extract_append_extract]
          simp
        rw [← h1, feed_two, I2.out]
      have hcc : cg ≠ 0 → (feedSt lg ag cg x).2.2.2 = cg := fun h => fed_code x ag cg h lg
      have HX := Aside.mk hx
      obtain ⟨P2, l2, a2, c2, hR2⟩ : ∃ P2 l2 a2 c2, feedSt lg ag cg x = (P2, l2, a2, c2) := ⟨_, _, _, _, rfl⟩
      have HR2 := Aside.mk hR2
      rw [hR2] at hfin hcc
      dsimp only at hfin hcc
      have HFIN := Aside.mk hfin
      rw [hfin] at F4 R4 ⊢
      dsimp only at F4 R4 ⊢
      have hP2 : P2.length ≤ 100000 := by
        have h1 := clean_facts _ _ _ _ _ hfin
        have h2 := flat_len _ h1.2.2.2.1
        have h3 := h1.2.1
        rw [List.length_append] at h2
        omega
      have hor : cg = 0 ∨ (cg ≠ 0 ∧ cg = c2) := by
        by_cases h : cg = 0
        · exact .inl h
        · exact .inr ⟨h, (hcc h).symm⟩
      have HOR := Aside.mk hor
      clear hfin hcc hR2 hx hor
      have hkz : (k < zs.length ∧ k = 30) ∨ k = zs.length := by have := HK.out; omega
      have hkq : (zs.length ≤ k ∧ (zs.length : Int) ≤ (k : Int)) ∨ (k < zs.length ∧ (k : Int) < (zs.length : Int) ∧ (30 : Int) ≤ (k : Int) ∧ 30 ≤ k) := by omega
      clear hkz hkK hk i1
      rcases hkq with ⟨hq, hqi⟩ | ⟨hq, hqi, hq2, hq3⟩
      all_goals
        go_wp2_with (refine wpList_tail (i := at_) Tryd.underlying9 rfl rfl rfl rfl hat ?_)
        rw [← HX.out]
        refine (feed I4.out I6.out x (by omega) (by omega) (by omega) hgg (fun k hk e => by have := (own_base I5.out k e.symm).2; omega)).mono ?_
        rw [HR2.out]
        dsimp only
        rintro e w5 ⟨vb, rfl, hr, hg, hF⟩
        have ho5 : Own w5 w4.heap.size u10 (txt Pg) := World.ownsRow.kept I5.out hg (by
          rcases hu : u10.ownBlock with _ | b
          · exact .inl rfl
          · refine .inr (fun e => ?_)
            have := (own_base I5.out b hu).1
            simp at e
            omega)
        have hs5 : wr.heap.size ≤ w5.heap.size := hg.size
        have hs4r : w4.heap.size ≤ wr.heap.size := I3.out.size
        have J1 := Aside.mk ho5
        have J2 := Aside.mk hr
        have J3 := Aside.mk hg
        have J4 := Aside.mk hF
        clear ho5 hr hg hF
        go_wp2_with (refine wpList_texts rfl (.tmp 76) (.tmp 77) rfl rfl J1.out rfl J2.out (by simp [txt]; omega) (by omega) ?_)
        intro v' w6 hown hgrow hblk
        have hgr : w4.grownBy w6 (some w2.heap.size) := by
          have h1 := grown_trans I3.out J3.out
          exact ⟨hgrow.os.trans h1.os, hgrow.tape.trans h1.tape, hgrow.output.trans h1.output, Nat.le_trans h1.size hgrow.size, fun i hi hn => (hgrow.block i (Nat.lt_of_lt_of_le hi h1.size) (fun e => by have := (own_base J1.out i e.symm).1; omega)).trans (h1.block i hi hn)⟩
        have hown2 : Own w6 w4.heap.size v' (txt (Pg ++ P2)) := by
          rwa [show txt Pg ++ txt P2 = txt (Pg ++ P2) by simp [txt]] at hown
        have B6 := Aside.mk (below_grown B4.out hgr (Nat.le_trans hs1 (Nat.le_of_lt (by omega))))
        have G6 := Aside.mk (G4.out.grown hgg hgr)
        have F6 := Aside.mk (F4.out.grown hgr (by simp; omega) (fun b hb => by simpa using hb))
        have R6 := Aside.mk (R4.out.grown hgr (fun b hb => by simp; omega))
        have E6 := Aside.mk (J4.out.bound.grown hgrow (fun e => by have := (own_base J1.out _ e.symm).1; omega) (fun b hb => hb.1))
        have O6 := Aside.mk (own_rs hown2)
        clear hown hgrow hblk hgr hown2
        go_wp2_with fail
        refine (texts R6.out O6.out (by simp [txt]; omega)).mono ?_
        rw [show decide (txt (Pg ++ P2) = txt (Pg ++ P2)) = true from decide_eq_true rfl]
        rintro e w7 ⟨rfl, hb⟩
        have B7 := Aside.mk (below_then B6.out hb)
        have G7 := Aside.mk (G6.out.below hb)
        have F7 := Aside.mk (F6.out.below hb)
        have E7 := Aside.mk (E6.out.below hb)
        clear hb
        have hcs : (cg == 0) = true ∨ ((cg == 0) = false ∧ (cg == c2) = true) := by
          rcases HOR.out with h | ⟨h, h2⟩
          · exact .inl (by simp [h])
          · exact .inr ⟨by simp [h], by simp [h2]⟩
        rcases hcs with hc0 | ⟨hc0, hc1⟩
        all_goals
          go_wp2_with fail
          refine (state F7.out G7.out).mono ?_
          rintro e w8 ⟨rfl, hb⟩
          have B8 := Aside.mk (below_then B7.out hb)
          have G8 := Aside.mk (G7.out.below hb)
          have F8 := Aside.mk (F7.out.below hb)
          have E8 := Aside.mk (E7.out.below hb)
          clear hb
          go_wp2_with fail
          refine (state E8.out G8.out).mono ?_
          rintro e w9 ⟨rfl, hb⟩
          have B9 := Aside.mk (below_then B8.out hb)
          have G9 := Aside.mk (G8.out.below hb)
          have F9 := Aside.mk (F8.out.below hb)
          have E9 := Aside.mk (E8.out.below hb)
          clear hb
          go_wp2_with fail
          refine (kept F9.out).mono ?_
          rintro e w10 ⟨rfl, hb⟩
          have B10 := Aside.mk (below_then B9.out hb)
          have G10 := Aside.mk (G9.out.below hb)
          have F10 := Aside.mk (F9.out.below hb)
          have E10 := Aside.mk (E9.out.below hb)
          clear hb
          go_wp2_with fail
          refine (kept E10.out).mono ?_
          rintro e w11 ⟨rfl, hb⟩
          have B11 := Aside.mk (below_then B10.out hb)
          have G11 := Aside.mk (G10.out.below hb)
          have F11 := Aside.mk (F10.out.below hb)
          have E11 := Aside.mk (E10.out.below hb)
          clear hb
          go_wp2_with fail
          refine (offset F11.out).mono ?_
          rintro e w12 ⟨rfl, hb⟩
          have B12 := Aside.mk (below_then B11.out hb)
          have G12 := Aside.mk (G11.out.below hb)
          have F12 := Aside.mk (F11.out.below hb)
          have E12 := Aside.mk (E11.out.below hb)
          clear hb
          go_wp2_with fail
          refine (offset E12.out).mono ?_
          rintro e w13 ⟨rfl, hb⟩
          have B13 := Aside.mk (below_then B12.out hb)
          have G13 := Aside.mk (G12.out.below hb)
          have F13 := Aside.mk (F12.out.below hb)
          have E13 := Aside.mk (E12.out.below hb)
          clear hb
          go_wp2_with fail
          refine (error F13.out G13.out).mono ?_
          rintro e w14 ⟨rfl, hb⟩
          have B14 := Aside.mk (below_then B13.out hb)
          have G14 := Aside.mk (G13.out.below hb)
          have F14 := Aside.mk (F13.out.below hb)
          have E14 := Aside.mk (E13.out.below hb)
          clear hb
          go_wp2_with fail
          refine (error E14.out G14.out).mono ?_
          rintro e w15 ⟨rfl, hb⟩
          have B15 := Aside.mk (below_then B14.out hb)
          have G15 := Aside.mk (G14.out.below hb)
          have F15 := Aside.mk (F14.out.below hb)
          have E15 := Aside.mk (E14.out.below hb)
          clear hb
          go_wp2
          go_ret
          exact ⟨rfl, B15.out⟩
end Go.Proofs.YtglmnglaliljdaaDoor.Frame
